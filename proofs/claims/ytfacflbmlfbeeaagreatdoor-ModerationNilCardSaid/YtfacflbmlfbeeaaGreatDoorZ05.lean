/- Arrays of bytes as keys of maps, and their comparison. Generic: no program. -/
import Derived.Test.YtfacflbmlfbeeaaGreatDoorZ04
import Derived.DeepKeys3
import Derived.Test.YtfacflbmlfbeeaaGreatDoorZ03
import Derived.Lib.Bytealg
import Derived.Sort.Statements
import Derived.Sort.Grow
import Derived.Deep.Draws
import Derived.Test.YtfacflbmlfbeeaaGreatDoorProg
import Derived.Lib.SplitLaws
import Derived.Lib.CountLaws
import Derived.Lib.CutLaws
import Derived.Lib.ItoaNum
import Derived.Test.YtfacflbmlfbeeaaGreatDoorZ02
import Derived.KernelRfl
import Derived.Shelf.Small.Bits
import Derived.Shelf.Small.Wraps
import Derived.Shelf.Strconv.Itoa0
import Derived.Shelf.Strings.Search1
import Derived.Shelf.Strings.Search2
import Derived.Shelf.Strings.Search3
import Derived.Shelf.Strings.Count
import Derived.Shelf.LaysM
import Derived.Shelf.Strings.Shaped
import Derived.Shelf.Strings.Split
import Derived.Shelf.Strings.SplitShaped
import Derived.Shelf.Unicode.DecodeSlow
namespace Go.Proofs.YtfacflbmlfbeeaaGreatDoor
open Go.RowKit Go.Maps

theorem mapM_some {α β : Type} {f : α → Option β} {g : α → β} : ∀ (l : List α), (∀ x ∈ l, f x = some (g x)) → l.mapM f = some (l.map g)
  | [], _ => by simp
  | x :: l, h => by
    rw [List.mapM_cons, h x (by simp), mapM_some l fun y hy => h y (by simp [hy])]
    rfl
section
variable {P : Program} {t e : TypeId} {n : Nat}
/-- An array of bytes. -/
def byA (l : List Int) : Value := .agg (l.map (Value.int .u8)).toArray
theorem keyLits_bytes (ht : P.underlying t = some (.array n e)) (he : P.underlying e = some (.int .u8)) (hc : P.cellsOf e = 1) (hct : P.cellsOf t = n) {l : List Int} (hl : l.length = n) (hb : ∀ x ∈ l, 0 ≤ x ∧ x ≤ 255) (D : Nat) :
    P.keyLits (D + 2) t (l.map (Value.int .u8)) = some (l.map (Lit.int .u8)) := by
  unfold Program.keyLits
  rw [ht]
  simp only
  rw [if_pos (by rw [List.length_map, hl, hct]), mapM_some (g := fun i => [Lit.int .u8 (l.getD i 0)]) _ (fun i hi => ?_)]
  · simp only [Option.map_some, Option.some.injEq]
    have h1 : ∀ r : List Nat, (r.map fun i => [Lit.int .u8 (l.getD i 0)]).flatten = r.map fun i => Lit.int .u8 (l.getD i 0) := fun r => by
      induction r with
      | nil => rfl
      | cons a r ih => rw [List.map_cons, List.map_cons, List.flatten_cons, ih]; rfl
    rw [h1]
    apply List.ext_getElem?
    intro j
    rw [List.getElem?_map, List.getElem?_map]
    rcases Nat.lt_or_ge j n with h | h
    · rw [List.getElem?_range h, List.getElem?_eq_getElem (by omega)]
      simp [List.getD_eq_getElem?_getD, hl, h]
    · rw [List.getElem?_eq_none (by simpa using h), List.getElem?_eq_none (by omega)]
      rfl
  · have hi : i < n := List.mem_range.1 hi
    have : ((l.map (Value.int .u8)).drop (i * P.cellsOf e)).take (P.cellsOf e) = [.int .u8 (l.getD i 0)] := by
      rw [hc, Nat.mul_one, List.drop_eq_getElem_cons (by rw [List.length_map]; omega)]
      simp [List.getD_eq_getElem?_getD, hl, hi]
    rw [this]
    unfold Program.keyLits
    rw [he]
    simp only
    have hx := hb (l.getD i 0) (by
      rw [List.getD_eq_getElem?_getD, List.getElem?_eq_getElem (by omega)]
      simp)
    generalize l.getD i 0 = v at hx
    have hw : (Lit.int .u8 v).wf = true := by simp [Lit.wf, IntKind.min, IntKind.max, IntKind.bits, IntKind.signed]; omega
    simp [hw]
theorem keyOf_bytes (ht : P.underlying t = some (.array n e)) (he : P.underlying e = some (.int .u8)) (hc : P.cellsOf e = 1) (hct : P.cellsOf t = n) (hkt : P.keyType t = true) (hD : 1 ≤ P.types.size) {l : List Int} (hl : l.length = n) (hb : ∀ x ∈ l, 0 ≤ x ∧ x ≤ 255) :
    keyOf P t (byA l) = some (.string (keyBytes (l.map (Lit.int .u8)))) := by
  unfold keyOf
  rw [ht]
  simp only
  have hf : (byA l).formed P t = true := by
    unfold byA Value.formed
    rw [ht]
    simp [hl, hct]
  rw [hkt, hf]
  have hk := keyLits_bytes ht he hc hct hl hb (P.types.size - 1)
  rw [show P.types.size - 1 + 2 = P.types.size + 1 by omega] at hk
  have : (byA l).cells.toList = l.map (Value.int .u8) := by simp [byA, Value.cells]
  rw [this, hk]
  rfl
theorem eq_bytes (ht : P.underlying t = some (.array n e)) (he : P.underlying e = some (.int .u8)) (hc : P.cellsOf e = 1) (hct : P.cellsOf t = n) (hkt : P.keyType t = true) (hD : 1 ≤ P.types.size) (hkm : P.keyTypeAt 3 t = true) (hg : P.eqGuardType P.depth t = false) {l l' : List Int} (hl : l.length = n) (hb : ∀ x ∈ l, 0 ≤ x ∧ x ≤ 255) (hl' : l'.length = n) (hb' : ∀ x ∈ l', 0 ≤ x ∧ x ≤ 255) :
    EqP P t (byA l) (byA l') (decide (l = l')) := by
  refine ⟨fun w => ?_, hg, _, _, rfl, rfl⟩
  obtain ⟨r, hr, hi⟩ := run_equal_deep w (m := 3) (by omega) hkm (by rw [ht]) (keyOf_bytes ht he hc hct hkt hD hl hb) (keyOf_bytes ht he hc hct hkt hD hl' hb')
  rw [hr]
  congr 1
  rw [Bool.eq_iff_iff, hi, decide_eq_true_eq]
  constructor
  · intro h
    have h : keyBytes (l.map (Lit.int .u8)) = keyBytes (l'.map (Lit.int .u8)) := by simpa using h
    have := keyLits_inj (keyLits_bytes ht he hc hct hl hb 0) (keyLits_bytes ht he hc hct hl' hb' 0) h
    exact (List.map_inj_right (fun a b h => by cases h; rfl)).1 this
  · rintro rfl; rfl
end
end Go.Proofs.YtfacflbmlfbeeaaGreatDoor

/- Orders by a comparing function (plain): numbers first, then bytes. No condition. -/
namespace Go.Proofs.YtfacflbmlfbeeaaGreatDoor
open Go.Sort

/-- A comparing function. -/
structure Ord3 {α : Type} (cf : α → α → Int) : Prop where
  anti : ∀ x y, cf x y = - cf y x
  tlt : ∀ x y z, cf x y < 0 → cf y z < 0 → cf x z < 0
  el : ∀ x y z, cf x y = 0 → cf y z < 0 → cf x z < 0
  le : ∀ x y z, cf x y < 0 → cf y z = 0 → cf x z < 0
theorem Ord3.self {α : Type} {cf : α → α → Int} (h : Ord3 cf) (x : α) : cf x x = 0 := by have := h.anti x x; omega
theorem Ord3.le_trans {α : Type} {cf : α → α → Int} (h : Ord3 cf) {x y z : α} (h1 : cf x y ≤ 0) (h2 : cf y z ≤ 0) (hz : ∀ x y z, cf x y = 0 → cf y z = 0 → cf x z = 0) : cf x z ≤ 0 := by
  rcases Int.lt_or_eq_of_le h1 with a | a <;> rcases Int.lt_or_eq_of_le h2 with b | b
  · have := h.tlt x y z a b; omega
  · have := h.le x y z a b; omega
  · have := h.el x y z a b; omega
  · have := hz x y z a b; omega
theorem cb_anti : ∀ a b : List UInt8, Lib.compareBytes a b = - Lib.compareBytes b a
  | [], [] => rfl
  | [], _ :: _ => rfl
  | _ :: _, [] => rfl
  | a :: us, b :: bs => by
    have ih := cb_anti us bs
    simp only [Lib.compareBytes]
    by_cases h1 : a < b
    · have h2 : ¬ b < a := by rw [UInt8.lt_iff_toNat_lt] at h1 ⊢; omega
      rw [if_pos h1, if_neg h2, if_pos h1]
    · by_cases h2 : b < a
      · rw [if_neg h1, if_pos h2, if_pos h2]; rfl
      · rw [if_neg h1, if_neg h2, if_neg h2, if_neg h1]; exact ih
theorem cb_zero : ∀ a b : List UInt8, Lib.compareBytes a b = 0 → a = b
  | [], [], _ => rfl
  | [], _ :: _, h => by simp [Lib.compareBytes] at h
  | _ :: _, [], h => by simp [Lib.compareBytes] at h
  | a :: us, b :: bs, h => by
    simp only [Lib.compareBytes] at h
    split at h
    · cases h
    · split at h
      · cases h
      · rename_i h1 h2
        have : a = b := by
          rw [UInt8.lt_iff_toNat_lt] at h1 h2
          exact UInt8.toNat_inj.1 (by omega)
        rw [this, cb_zero us bs h]
theorem cb_self (a : List UInt8) : Lib.compareBytes a a = 0 := by have := cb_anti a a; omega
theorem cb_tlt : ∀ a b c : List UInt8, Lib.compareBytes a b < 0 → Lib.compareBytes b c < 0 → Lib.compareBytes a c < 0
  | [], [], _, h, _ => by simp [Lib.compareBytes] at h
  | _ :: _, [], _, h, _ => by simp [Lib.compareBytes] at h
  | [], _ :: _, [], _, h => by simp [Lib.compareBytes] at h
  | [], _ :: _, _ :: _, _, _ => by simp [Lib.compareBytes]
  | _ :: _, _ :: _, [], _, h => by simp [Lib.compareBytes] at h
  | a :: us, b :: bs, c :: cs, h1, h2 => by
    have ih := cb_tlt us bs cs
    simp only [Lib.compareBytes] at h1 h2 ⊢
    simp only [UInt8.lt_iff_toNat_lt] at h1 h2 ⊢
    repeat' split
    all_goals first | decide | (split at h1 <;> split at h2 <;> first | omega | (split at h1 <;> first | omega | (split at h2 <;> first | omega | (apply ih <;> assumption))) | (split at h2 <;> first | omega | (apply ih <;> assumption)))
theorem cb_ord {α : Type} (f : α → List UInt8) : Ord3 fun x y => Lib.compareBytes (f x) (f y) where
  anti x y := cb_anti _ _
  tlt x y z := cb_tlt _ _ _
  el x y z h1 h2 := by have := cb_zero _ _ h1; rw [this]; exact h2
  le x y z h1 h2 := by have := cb_zero _ _ h2; rw [← this]; exact h1
theorem ci_ord {α : Type} (f : α → Int) : Ord3 fun x y => if f x < f y then (-1 : Int) else if f y < f x then 1 else 0 where
  anti x y := by split <;> split <;> omega
  tlt x y z h1 h2 := by split at h1 <;> split at h2 <;> split <;> omega
  el x y z h1 h2 := by split at h1 <;> split at h2 <;> split <;> omega
  le x y z h1 h2 := by split at h1 <;> split at h2 <;> split <;> omega
/-- One after the other. -/
theorem Ord3.thn {α : Type} {cf cg : α → α → Int} (hf : Ord3 cf) (hg : Ord3 cg) (hz : ∀ x y z, cf x y = 0 → cf y z = 0 → cf x z = 0) : Ord3 fun x y => if cf x y ≠ 0 then cf x y else cg x y where
  anti x y := by
    have h1 := hf.anti x y
    have h2 := hg.anti x y
    by_cases h : cf x y = 0
    · rw [if_neg (by omega), if_neg (by omega)]; exact h2
    · rw [if_pos h, if_pos (by omega)]; exact h1
  tlt x y z h1 h2 := by
    by_cases a : cf x y = 0
    · rw [if_neg (by omega)] at h1
      by_cases b : cf y z = 0
      · rw [if_neg (by omega)] at h2
        rw [if_neg (by have := hz x y z a b; omega)]
        exact hg.tlt x y z h1 h2
      · rw [if_pos b] at h2
        have := hf.el x y z a h2
        rw [if_pos (by omega)]; exact this
    · rw [if_pos a] at h1
      by_cases b : cf y z = 0
      · have := hf.le x y z h1 b
        rw [if_pos (by omega)]; exact this
      · rw [if_pos b] at h2
        have := hf.tlt x y z h1 h2
        rw [if_pos (by omega)]; exact this
  el x y z h1 h2 := by
    by_cases a : cf x y = 0
    · rw [if_neg (by omega)] at h1
      by_cases b : cf y z = 0
      · rw [if_neg (by omega)] at h2
        rw [if_neg (by have := hz x y z a b; omega)]
        exact hg.el x y z h1 h2
      · rw [if_pos b] at h2
        have := hf.el x y z a h2
        rw [if_pos (by omega)]; exact this
    · rw [if_pos a] at h1; omega
  le x y z h1 h2 := by
    by_cases b : cf y z = 0
    · rw [if_neg (by omega)] at h2
      by_cases a : cf x y = 0
      · rw [if_neg (by omega)] at h1
        rw [if_neg (by have := hz x y z a b; omega)]
        exact hg.le x y z h1 h2
      · rw [if_pos a] at h1
        have := hf.le x y z h1 b
        rw [if_pos (by omega)]; exact this
    · rw [if_pos b] at h2; omega
theorem Ord3.swo {α : Type} {cf : α → α → Int} (h : Ord3 cf) : SWO fun x y => decide (cf x y < 0) where
  irrefl x := by have := h.self x; simp; omega
  trans x y z h1 h2 := by simp at h1 h2 ⊢; exact h.tlt x y z h1 h2
  ntrans x y z h1 h2 := by
    simp at h1 h2 ⊢
    have a1 := h.anti x y
    have a2 := h.anti y z
    have a3 := h.anti x z
    rcases Int.lt_or_eq_of_le h1 with p | p <;> rcases Int.lt_or_eq_of_le h2 with q | q
    · have := h.tlt z y x (by omega) (by omega); omega
    · have := h.el z y x (by omega) (by omega); omega
    · have := h.le z y x (by omega) (by omega); omega
    · have b1 : cf x y = 0 := by omega
      have b2 : cf y z = 0 := by omega
      apply Classical.byContradiction
      intro hc
      have := h.le x z y (by omega) (by omega)
      omega

end Go.Proofs.YtfacflbmlfbeeaaGreatDoor

/- Plain tests of bytes. No program in sight. -/
namespace Go.Proofs.YtfacflbmlfbeeaaGreatDoor
open Go.RowKit

end Go.Proofs.YtfacflbmlfbeeaaGreatDoor

/- Plain functions on texts (no program in sight): the tests of characters, the errors of a site's name, searches for a first index. No condition. -/
namespace Go.Proofs.YtfacflbmlfbeeaaGreatDoor

theorem at8_lt (s : ByteArray) (k : Nat) (h : k < s.size) : at8 s k = (s[k].toNat : Int) := by simp [at8, h]
theorem at8_bd (s : ByteArray) (k : Nat) : 0 ≤ at8 s k ∧ at8 s k ≤ 255 := by
  unfold at8
  split
  · have := s[k].toNat_lt; omega
  · omega

theorem toList_nil (s : ByteArray) : (s.toList == []) = decide (s.size = 0) := by
  have h : s.toList.length = s.size := by rw [ByteArray.toList_eq]; exact s.data.length_toList
  cases hs : s.toList with
  | nil => rw [hs] at h; have h : s.size = 0 := h.symm; rw [h]; rfl
  | cons a r =>
    rw [hs] at h
    have h : s.size = r.length + 1 := h.symm
    have : ¬ s.size = 0 := by omega
    rw [decide_eq_false this]
    rfl
/-- A loop that counts a slot from 0 up to n. -/
theorem count1 {w : World} {F : (List Value → World → Prop) → (List Value → World → Nat) → Int → World → Prop} (n : Nat) (hn : (n : Int) ≤ 9223372036854775807) (J : Nat → World → Prop) (h0 : J 0 w)
    (step : ∀ (I : List Value → World → Prop) (m : List Value → World → Nat) (k : Nat) (w' : World), k ≤ n → J k w' →
      (k < n → ∀ w'', J (k + 1) w'' → I [.int .i64 (IntKind.i64.wrap (k + 1))] w'' ∧ m [.int .i64 (IntKind.i64.wrap (k + 1))] w'' < m [.int .i64 k] w') → F I m k w') :
    ∃ (I : List Value → World → Prop) (m : List Value → World → Nat), I [.int .i64 0] w ∧ ∀ (x : Int) (w' : World), I [.int .i64 x] w' → F I m x w' := by
  refine ⟨fun vs w' => ∃ k : Nat, vs = [.int .i64 k] ∧ k ≤ n ∧ J k w', fun vs _ => (match vs with | [.int _ x] => n - x.toNat | _ => 0), ⟨0, rfl, by omega, h0⟩, fun x w' ⟨k, hv, hk, hJ⟩ => ?_⟩
  have hx : x = (k : Int) := by simpa using hv
  subst hx
  refine step _ _ k w' hk hJ (fun hlt w'' hJ' => ?_)
  rw [show IntKind.i64.wrap ((k : Int) + 1) = ((k + 1 : Nat) : Int) from by rw [wr64 (by omega) (by omega)]; omega]
  exact ⟨⟨k + 1, rfl, by omega, hJ'⟩, by simp; omega⟩

end Go.Proofs.YtfacflbmlfbeeaaGreatDoor

/- Identities: arrays of 32 bytes as lists, as keys, compared. No condition. -/
namespace Go.Proofs.YtfacflbmlfbeeaaGreatDoor
open Go.RowKit Go.Sort Go.Maps

/-- The numbers of an array of 32 bytes. -/
def idI (f : Nat → Int) : List Int := (List.range 32).map f
/-- Its bytes. -/
def idB (f : Nat → Int) : List UInt8 := (idI f).map fun x => x.toNat.toUInt8
theorem idI_get (f : Nat → Int) {j : Nat} (h : j < 32) : (idI f)[j]? = some (f j) := by simp [idI, h]
theorem arrI_get (k : IntKind) (f : Nat → Int) : ∀ (n i j : Nat), j < n → (arrI k f n i)[j]? = some (.int k (f (i + j)))
  | 0, _, j, h => by omega
  | n + 1, i, 0, _ => by simp [arrI]
  | n + 1, i, j + 1, h => by
    simp only [arrI, List.getElem?_cons_succ]
    rw [arrI_get k f n (i + 1) j (by omega)]
    congr 3; omega
/-- Only draws and new blocks. -/
theorem grow_of {w w' : World} (h : K0 w w') (hd : w.drawn ≤ w'.drawn) : ∃ q os', w' = grow (w.drewN q) os' := by
  refine ⟨w'.drawn - w.drawn, w'.heap.extract w.heap.size w'.heap.size, ?_⟩
  have hh : w'.heap = w.heap ++ w'.heap.extract w.heap.size w'.heap.size := by
    apply Array.ext_getElem?
    intro i
    rw [Array.getElem?_append]
    split
    · rename_i hi; exact h.block i hi (fun h => h)
    · rename_i hi
      rw [Array.getElem?_extract]
      have := h.size
      by_cases hl : i < w'.heap.size
      · rw [if_pos (by omega)]; congr 1; omega
      · rw [if_neg (by omega)]; exact Array.getElem?_eq_none (by omega)
  have h1 := h.os
  have h2 := h.tape
  have h3 := h.output
  obtain ⟨hp, tp, dr, os, out⟩ := w
  obtain ⟨hp', tp', dr', os', out'⟩ := w'
  simp only at hh h1 h2 h3 hd
  subst h1 h2 h3
  simp only [grow, World.drewN]
  congr 1
  omega
theorem idEq {l l' : List Int} (hl : l.length = 32) (hb : ∀ x ∈ l, 0 ≤ x ∧ x ≤ 255) (hl' : l'.length = 32) (hb' : ∀ x ∈ l', 0 ≤ x ∧ x ≤ 255) : EqP Tryz.prog 32 (byA l) (byA l') (decide (l = l')) :=
  eq_bytes Tryz.underlying32 Tryz.underlying5 (by kernel_rfl) (by kernel_rfl) (by kernel_rfl) (by decide +kernel) (by kernel_rfl) (by kernel_rfl) hl hb hl' hb'
theorem idI_len (f : Nat → Int) : (idI f).length = 32 := by simp [idI]
theorem idI_bd {f : Nat → Int} (h : ∀ j, 0 ≤ f j ∧ f j ≤ 255) : ∀ x ∈ idI f, 0 ≤ x ∧ x ≤ 255 := fun x hx => by
  obtain ⟨j, _, rfl⟩ := List.mem_map.1 hx
  exact h j

end Go.Proofs.YtfacflbmlfbeeaaGreatDoor

/- Rows of elements that can be read. Generic: no program, no condition. -/
namespace Go.Proofs.YtfacflbmlfbeeaaGreatDoor
open Go.RowKit

/-- Elements that lie one behind the other. -/
def RowA {α : Type} (f : α → List Value) (L : Nat) (w : World) (p : Option Addr) (l : List α) : Prop := ∀ k y, l[k]? = some y → ∃ b o, p = some ⟨b, o, none⟩ ∧ AtL w b (o + k * L) (f y)
section
variable {α : Type} {f : α → List Value} {L : Nat} {w w' : World} {p : Option Addr} {l : List α}
theorem RowA.k0 (h : RowA f L w p l) (hk : K0 w w') : RowA f L w' p l := fun k y hy => by
  obtain ⟨b, o, h1, h2⟩ := h k y hy
  exact ⟨b, o, h1, h2.k0 hk⟩
theorem RowA.get (h : RowA f L w p l) {k : Nat} (hk : k < l.length) : ∃ y b o, l[k]? = some y ∧ p = some ⟨b, o, none⟩ ∧ AtL w b (o + k * L) (f y) := by
  obtain ⟨y, hy⟩ : ∃ y, l[k]? = some y := ⟨_, List.getElem?_eq_getElem hk⟩
  obtain ⟨b, o, h1, h2⟩ := h k y hy
  exact ⟨y, b, o, hy, h1, h2⟩
theorem RowA.own {base : Nat} {e : TypeId} {n c : Nat} (h : w.ownsRow base e L (.slice p n c) n (l.flatMap f)) (hl : ∀ y, (f y).length = L) (h0 : 0 < L) : RowA f L w p l := fun k y hy => by
  obtain ⟨g, h1, h2⟩ := own_at f h (fun y _ => hl y) h0 hy
  exact ⟨g, 0, h1, h2⟩
theorem RowA.nil : RowA f L w p [] := fun k y hy => by simp at hy
end
theorem AtL.cell {w : World} {b o : Nat} {cs : List Value} (h : AtL w b o cs) {j : Nat} {v : Value} (hj : cs[j]? = some v) : w.cell? ⟨b, o + j, none⟩ = some v := At_get _ _ h.h j v hj
theorem AtL.one {w : World} {b o : Nat} {v : Value} (h : AtL w b o [v]) : w.cell? ⟨b, o, none⟩ = some v := by simpa using h.cell (j := 0) rfl
theorem StrP.get {w : World} {p : Option Addr} {zs : List ByteArray} (h : StrP w p zs) {k : Nat} (hk : k < zs.length) : ∃ z b o, zs[k]? = some z ∧ p = some ⟨b, o, none⟩ ∧ w.cell? ⟨b, o + k, none⟩ = some (.string z) := by
  obtain ⟨y, hy⟩ : ∃ y, zs[k]? = some y := ⟨_, List.getElem?_eq_getElem hk⟩
  obtain ⟨b, o, h1, h2⟩ := h k y hy
  exact ⟨y, b, o, hy, h1, h2⟩
theorem StrP.k0 {w w' : World} {p : Option Addr} {zs : List ByteArray} (h : StrP w p zs) (hk : K0 w w') : StrP w' p zs := h.kp hk (fun _ _ _ h => h)
theorem inc64 {i : Nat} (h : i < 9223372036854775807) : IntKind.i64.wrap ((i : Int) + 1) = ((i + 1 : Nat) : Int) := by rw [wr64 (by omega) (by omega)]; omega
theorem take_snoc {α : Type} {l : List α} {i : Nat} {x : α} (h : l[i]? = some x) : l.take (i + 1) = l.take i ++ [x] := by rw [List.take_add_one, h]; rfl
/-- A block of the function's own is written. -/
theorem put_k0 {w w1 w2 : World} {b o : Nat} {cs : List Value} (h : K0 w w1) (hp : PutB w1 b o cs w2) (hb : w.heap.size ≤ b) : K0 w w2 := Kp.fresh h hp.kp (fun i hi e => by omega)
theorem put_kept {w1 w2 : World} {b o : Nat} {cs : List Value} {l : List Nat} (hp : PutB w1 b o cs w2) (hb : ∀ n ∈ l, n ≠ b) : KeptL l w1 w2 := .of_kp hp.kp (fun n hn e => hb n hn e)
theorem PutB.blk {w1 w2 : World} {b o : Nat} {cs : List Value} (hp : PutB w1 b o cs w2) {n : Nat} {x : Obj} (h : w1.heap[n]? = some x) (hb : n ≠ b) : w2.heap[n]? = some x := hp.kp.blk h (fun e => hb e)
end Go.Proofs.YtfacflbmlfbeeaaGreatDoor

/- Plain: bytes of texts, a text cut at its first byte c, numbers in decimal. No program in sight. -/
namespace Go.Proofs.YtfacflbmlfbeeaaGreatDoor
open Go.RowKit

theorem at8_byte {s : ByteArray} {k : Nat} (h : k < s.size) : s.data.toList[k]? = some (at8 s k).toNat.toUInt8 := by
  rw [at8_lt s k h, Array.getElem?_toList, Array.getElem?_eq_getElem (show k < s.data.size from h)]
  congr 1
  show s[k] = _
  rw [Int.toNat_natCast]
  simp
theorem byte_inj {c d : Int} (hc : 0 ≤ c ∧ c ≤ 255) (hd : 0 ≤ d ∧ d ≤ 255) : (d.toNat.toUInt8 == c.toNat.toUInt8) = decide (d = c) := by
  rw [Bool.eq_iff_iff]
  simp only [beq_iff_eq, decide_eq_true_eq]
  constructor
  · intro h
    have h1 : d.toNat.toUInt8.toNat = c.toNat.toUInt8.toNat := by rw [h]
    rw [UInt8.toNat_ofNat', UInt8.toNat_ofNat'] at h1
    omega
  · rintro rfl; rfl
theorem ixC_hit : ∀ (l : List UInt8) (c : UInt8) (i : Nat), l[i]? = some c → (∀ j, j < i → l[j]? ≠ some c) → Lib.indexByte l c = i
  | [], c, i, h, _ => by simp at h
  | b :: l, c, 0, h, _ => by simp at h; subst h; simp [Lib.indexByte]
  | b :: l, c, i + 1, h, hn => by
    have ih := ixC_hit l c i (by simpa using h) (fun j hj => by have := hn (j + 1) (by omega); simpa using this)
    have hb : ¬ b = c := by have := hn 0 (by omega); simpa using this
    unfold Lib.indexByte
    simp only [ih]
    have : (b == c) = false := by simpa using hb
    simp [this]
theorem ixC_miss : ∀ (l : List UInt8) (c : UInt8), (∀ j : Nat, l[j]? ≠ some c) → Lib.indexByte l c = -1
  | [], c, _ => rfl
  | b :: l, c, hn => by
    have ih := ixC_miss l c (fun j => by have := hn (j + 1); simpa using this)
    have hb : ¬ b = c := by have := hn 0; simpa using this
    unfold Lib.indexByte
    have : (b == c) = false := by simpa using hb
    simp [ih, this]
theorem u8C (c : UInt8) {d : Int} (h0 : 0 ≤ d) (h1 : d ≤ 255) : (d.toNat.toUInt8 = c) ↔ d = (c.toNat : Int) := by
  have hc := c.toNat_lt
  have := byte_inj (c := (c.toNat : Int)) (d := d) (by omega) ⟨h0, h1⟩
  have ec : ((c.toNat : Int)).toNat.toUInt8 = c := by simp
  rw [ec] at this
  constructor
  · intro h
    rw [h] at this
    simpa using this.symm
  · intro h
    rw [h]; exact ec
theorem getC (c : UInt8) {s : ByteArray} {j : Nat} : s.data.toList[j]? = some c ↔ j < s.size ∧ at8 s j = (c.toNat : Int) := by
  rcases Nat.lt_or_ge j s.size with h | h
  · rw [at8_byte h]
    simp only [Option.some.injEq, h, true_and]
    exact u8C c (at8_bd s j).1 (at8_bd s j).2
  · have : s.data.toList[j]? = none := List.getElem?_eq_none (by simpa using h)
    rw [this]
    simp; omega

/-- The place of the first byte c at or behind i, or the text's end. -/
def FirstC (c : UInt8) (s : ByteArray) (a i : Nat) : Prop := a ≤ i ∧ i ≤ s.size ∧ (∀ j, a ≤ j → j < i → at8 s j ≠ (c.toNat : Int)) ∧ (i < s.size → at8 s i = (c.toNat : Int))
theorem FirstC.uniq {c : UInt8} {s : ByteArray} {a i k : Nat} (h : FirstC c s a i) (g : FirstC c s a k) : i = k := by
  obtain ⟨h1, h2, h3, h4⟩ := h
  obtain ⟨g1, g2, g3, g4⟩ := g
  rcases Nat.lt_trichotomy i k with h | h | h
  · exact absurd (h4 (by omega)) (g3 i h1 h)
  · exact h
  · exact absurd (g4 (by omega)) (h3 k g1 h)
def findC (c : UInt8) (s : ByteArray) : Nat := s.data.toList.findIdx (· == c)
theorem findC_first (c : UInt8) (s : ByteArray) : FirstC c s 0 (findC c s) := by
  have hl : s.data.toList.length = s.size := s.data.length_toList
  refine ⟨by omega, by rw [← hl]; exact List.findIdx_le_length, fun j _ hj hc => ?_, fun h => ?_⟩
  · have hj' : j < s.size := by rw [← hl]; exact Nat.lt_of_lt_of_le hj List.findIdx_le_length
    have h1 := (getC c).2 ⟨hj', hc⟩
    obtain ⟨hk, e⟩ := List.getElem?_eq_some_iff.1 h1
    have := List.not_of_lt_findIdx hj
    rw [e] at this
    simp at this
  · have h' : s.data.toList.findIdx (· == c) < s.data.toList.length := by rw [hl]; exact h
    have h1 : (s.data.toList[s.data.toList.findIdx (· == c)] == c) = true := List.findIdx_getElem (w := h')
    refine ((getC c).1 ?_).2
    unfold findC
    rw [List.getElem?_eq_getElem h', beq_iff_eq.1 h1]

/-! ### Numbers -/
def NumOK (s : ByteArray) : Prop := 0 < s.size ∧ (∀ i, i < s.size → 48 ≤ at8 s i ∧ at8 s i ≤ 57) ∧ (1 < s.size → at8 s 0 ≠ 48)
instance (s : ByteArray) : Decidable (NumOK s) := by unfold NumOK; infer_instance
/-! ### A number in decimal -/
end Go.Proofs.YtfacflbmlfbeeaaGreatDoor

/- Chapter 21, plain: names of groups, definitions, authorities. No program in sight. -/
namespace Go.Proofs.YtfacflbmlfbeeaaGreatDoor
open Go.RowKit

/-! ### Names of groups -/
/-- A text cut at each dot. -/
def partsD (s : ByteArray) : List ByteArray := Lib.splitB ⟨#[46]⟩ 0 (Lib.countB s ⟨#[46]⟩) s
theorem partsD_hit {s : ByteArray} {i : Nat} (h : FirstC 46 s 0 i) (hi : i < s.size) : partsD s = s.extract 0 i :: partsD (s.extract (i + 1) s.size) := by
  have hx : Lib.indexB s ⟨#[46]⟩ = i := by
    show Lib.index s.data.toList [46] = i
    rw [Lib.index_one]
    exact ixC_hit _ _ _ ((getC 46).2 ⟨hi, h.2.2.2 hi⟩) (fun j hj hc => h.2.2.1 j (by omega) hj ((getC 46).1 hc).2)
  unfold partsD
  rw [Lib.countB_hit s ⟨#[46]⟩ i (Nat.le_refl 1) hx, Nat.add_comm, Lib.splitB_hit _ _ _ _ i hx]
  rfl
theorem partsD_miss {s : ByteArray} {i : Nat} (h : FirstC 46 s 0 i) (hi : ¬ i < s.size) : partsD s = [s] := by
  have hx : Lib.indexB s ⟨#[46]⟩ = -1 := by
    show Lib.index s.data.toList [46] = -1
    rw [Lib.index_one]
    exact ixC_miss _ _ (fun j hc => h.2.2.1 j (by omega) (by have := ((getC 46).1 hc).1; have := h.2.1; omega) ((getC 46).1 hc).2)
  unfold partsD
  exact Lib.splitB_miss _ _ _ _ hx
def lowC (c : Int) : Bool := decide (97 ≤ c) && decide (c ≤ 122)
def compC (c : Int) : Bool := lowC c || (decide (48 ≤ c) && decide (c ≤ 57)) || c == 45 || c == 43 || c == 95
def compB (s : ByteArray) : Bool := decide (0 < s.size) && decide (s.size ≤ 20) && lowC (at8 s 0) && (List.range s.size).all fun i => compC (at8 s i)
def gnE (s : ByteArray) : Int := if 80 < s.size then 5 else if (partsD s).any (fun x => !compB x) = true then 12 else if 10 < (partsD s).length then 9 else 0

/-! ### Definitions -/
/-- The numbers of an array of 16 bytes. -/
def auI (f : Nat → Int) : List Int := (List.range 16).map f
theorem auI_get (f : Nat → Int) {j : Nat} (h : j < 16) : (auI f)[j]? = some (f j) := by simp [auI, h]
structure Df where
  id : Nat → Int
  au : Nat → Int
  g : ByteArray
  v : Int
  rm : Bool
  md : Bool
  ms : List (Nat → Int)
  tx : ByteArray
/-- What a definition says. -/
def Df.pl (d : Df) : List Int × List Int × ByteArray × Int × Bool × Bool × List (List Int) × ByteArray := (idI d.id, auI d.au, d.g, d.v, d.rm, d.md, d.ms.map auI, d.tx)
/-- A definition with the place of its moderators. -/
structure DX where
  d : Df
  p : Option Addr
  c : Nat
def auC (a : Nat → Int) : List Value := arrI .u8 a 16 0
theorem auC_length (a : Nat → Int) : (auC a).length = 16 := rfl


end Go.Proofs.YtfacflbmlfbeeaaGreatDoor

/- Sorted permutations are equal; insertion keeps the order; keys of a number and bytes (plain). No condition. -/
namespace Go.Proofs.YtfacflbmlfbeeaaGreatDoor
open Go.Sort

end Go.Proofs.YtfacflbmlfbeeaaGreatDoor

/- Chapter 39, plain: submissions, entries, their order. No program in sight. -/
namespace Go.Proofs.YtfacflbmlfbeeaaGreatDoor
open Go.RowKit Go.Sort

/-! ### Submissions -/
structure Sb where
  id : Nat → Int
  g : ByteArray
  tx : ByteArray
  r : Int
  st : Int
  mo : Nat → Int
  de : Int
  rs : ByteArray
/-- What a submission says. -/
def Sb.pl (x : Sb) : List Int × ByteArray × ByteArray × Int × Int × List Int × Int × ByteArray := (idI x.id, x.g, x.tx, x.r, x.st, auI x.mo, x.de, x.rs)
def sbC (x : Sb) : List Value := arrI .u8 x.id 32 0 ++ (([.string x.g, .string x.tx, .int .i64 x.r, .int .i64 x.st] : List Value) ++ (arrI .u8 x.mo 16 0 ++ ([.int .i64 x.de, .string x.rs] : List Value)))
theorem sbC_length (x : Sb) : (sbC x).length = 54 := rfl
abbrev sbV (x : Sb) : Value := .agg (sbC x).toArray
structure En where
  s : Sb
  le : Bool
  ho : Nat → Int
  si : Int
def enC (x : En) : List Value := arrI .u8 x.s.id 32 0 ++ (([.string x.s.g, .string x.s.tx, .int .i64 x.s.r, .int .i64 x.s.st] : List Value) ++ (arrI .u8 x.s.mo 16 0 ++ (([.int .i64 x.s.de, .string x.s.rs, .bool x.le] : List Value) ++ (arrI .u8 x.ho 16 0 ++ ([.int .i64 x.si] : List Value)))))
theorem enC_length (x : En) : (enC x).length = 72 := rfl
abbrev enV (x : En) : Value := .agg (enC x).toArray
def sbz : Sb := ⟨fun _ => 0, ⟨#[]⟩, ⟨#[]⟩, 0, 0, fun _ => 0, 0, ⟨#[]⟩⟩
def enz : En := ⟨sbz, false, fun _ => 0, 0⟩
def En.pl (x : En) : (List Int × ByteArray × ByteArray × Int × Int × List Int × Int × ByteArray) × Bool × List Int × Int := (x.s.pl, x.le, auI x.ho, x.si)
/-- The key of a submission. -/
abbrev Ky := List Int × ByteArray
def Sb.ky (x : Sb) : Ky := (idI x.id, x.g)
def kyV (k : Ky) : Value := .agg (k.1.map (Value.int .u8) ++ ([.string k.2] : List Value)).toArray
theorem kyV_inj (x y : Ky) (h : kyV x = kyV y) : x = y := by
  unfold kyV at h
  simp only [Value.agg.injEq] at h
  have h := congrArg Array.toList h
  have h : x.1.map (Value.int .u8) ++ ([.string x.2] : List Value) = y.1.map (Value.int .u8) ++ [.string y.2] := h
  obtain ⟨h1, h2⟩ := List.append_inj' h rfl
  have h1 : x.1 = y.1 := (List.map_inj_right (fun a b h => by cases h; rfl)).1 h1
  simp at h2
  exact Prod.ext h1 h2

/-! ### Names compared -/
def lsC : List ByteArray → List ByteArray → Int
  | [], [] => 0
  | [], _ :: _ => -1
  | _ :: _, [] => 1
  | a :: r, b :: s => if Lib.compareBytes a.data.toList b.data.toList ≠ 0 then Lib.compareBytes a.data.toList b.data.toList else lsC r s
theorem lsC_anti : ∀ a b, lsC a b = - lsC b a
  | [], [] => rfl
  | [], _ :: _ => rfl
  | _ :: _, [] => rfl
  | a :: r, b :: s => by
    have h1 := cb_anti a.data.toList b.data.toList
    have h2 := lsC_anti r s
    unfold lsC
    split <;> split <;> omega
theorem ba_eq {a b : ByteArray} (h : a.data.toList = b.data.toList) : a = b := ByteArray.ext (Array.toList_inj.1 h)
theorem lsC_zero : ∀ a b, lsC a b = 0 → a = b
  | [], [], _ => rfl
  | [], _ :: _, h => by cases h
  | _ :: _, [], h => by cases h
  | a :: r, b :: s, h => by
    unfold lsC at h
    split at h
    · contradiction
    · rename_i h1
      have h2 : Lib.compareBytes a.data.toList b.data.toList = 0 := by simpa using h1
      rw [lsC_zero r s h, ba_eq (cb_zero _ _ h2)]
theorem lsC_tlt : ∀ a b c, lsC a b < 0 → lsC b c < 0 → lsC a c < 0
  | [], [], _, h, _ => by simp [lsC] at h
  | _ :: _, [], _, h, _ => by simp [lsC] at h
  | [], _ :: _, [], _, h => by simp [lsC] at h
  | [], _ :: _, _ :: _, _, _ => by simp [lsC]
  | _ :: _, _ :: _, [], _, h => by simp [lsC] at h
  | a :: r, b :: s, c :: t, h1, h2 => by
    have ih := lsC_tlt r s t
    unfold lsC at h1 h2 ⊢
    have q1 := cb_tlt a.data.toList b.data.toList c.data.toList
    by_cases e1 : Lib.compareBytes a.data.toList b.data.toList = 0
    · have e : a = b := ba_eq (cb_zero _ _ e1)
      subst e
      rw [if_neg (by omega)] at h1
      by_cases e2 : Lib.compareBytes a.data.toList c.data.toList = 0
      · rw [if_neg (by omega)] at h2
        rw [if_neg (by omega)]
        exact ih h1 h2
      · rw [if_pos e2] at h2
        rw [if_pos e2]
        exact h2
    · rw [if_pos e1] at h1
      by_cases e2 : Lib.compareBytes b.data.toList c.data.toList = 0
      · have e : b = c := ba_eq (cb_zero _ _ e2)
        subst e
        rw [if_pos e1]
        exact h1
      · rw [if_pos e2] at h2
        have := q1 h1 h2
        rw [if_pos (by omega)]
        exact this
def gnC (a b : ByteArray) : Int := lsC (partsD a) (partsD b)
theorem lsC_ord : Ord3 fun x y : ByteArray => gnC x y where
  anti x y := lsC_anti _ _
  tlt x y z := lsC_tlt _ _ _
  el x y z h1 h2 := by have := lsC_zero (partsD x) (partsD y) h1; show lsC (partsD x) _ < 0; rw [this]; exact h2
  le x y z h1 h2 := by have := lsC_zero (partsD y) (partsD z) h2; show lsC _ (partsD z) < 0; rw [← this]; exact h1

/-! ### Submissions compared -/
def cfI (x y : Sb) : Int := if Lib.compareBytes (idB x.id) (idB y.id) ≠ 0 then Lib.compareBytes (idB x.id) (idB y.id) else gnC x.g y.g
def cfT (x y : Sb) : Int := if x.r < y.r then -1 else if y.r < x.r then 1 else 0
def cfM (x y : Sb) : Int := if cfT x y ≠ 0 then cfT x y else cfI x y
theorem cfI_ord : Ord3 cfI := (cb_ord (fun x : Sb => idB x.id)).thn ⟨fun x y => lsC_ord.anti x.g y.g, fun x y z => lsC_ord.tlt x.g y.g z.g, fun x y z => lsC_ord.el x.g y.g z.g, fun x y z => lsC_ord.le x.g y.g z.g⟩ (fun x y z h1 h2 => by
  have e1 := cb_zero _ _ h1
  have e2 := cb_zero _ _ h2
  rw [e1, e2]; exact cb_self _)
theorem cfM_ord : Ord3 cfM := (ci_ord (fun x : Sb => x.r)).thn cfI_ord (fun x y z h1 h2 => by split at h1 <;> split at h2 <;> split <;> omega)

/-! ### Leases -/
def inE (x : En) (now : Int) : Bool := x.le && (decide (x.si ≤ now) && decide (now - x.si < 60))
def blk (x : En) (a : List Int) (now : Int) : Bool := inE x now && !decide (auI x.ho = a)

end Go.Proofs.YtfacflbmlfbeeaaGreatDoor

/- Functions without an effect (IsLower, IsDigit, isPermitted, alnum, Char, IndexByte, HasPrefix), and isStar, stands,, by plain functions. No condition. -/
namespace Go.Proofs.YtfacflbmlfbeeaaGreatDoor
open Go.RowKit

def pur1 (_ : FuncId) (_ : List Value) : Option (Option Prop × Value) := none
theorem pur1_ok {l : List (Nat × List (Nat × Ck))} {t : List (Nat × Nat)} {j : List (Nat × List (Nat × Ck))} {b : List (Nat × Unit)} {r : List (Nat × TypeId)} : PurOK { P := Tryz.prog, loops := l, pur := pur1, tails := t, joins := j, boxes := b, rngs := r } := fun _ _ _ _ h _ => by cases h

end Go.Proofs.YtfacflbmlfbeeaaGreatDoor

/- The formulas of functions by the symbolic evaluator, and that each gives the call's contract. Written by a program (gen.py). No condition. -/
namespace Go.Proofs.YtfacflbmlfbeeaaGreatDoor
set_option maxRecDepth 100000
set_option linter.unusedVariables false

def VC_bidx (p : Option Addr) (n : Nat) (c : Nat) (f : FuncId) (fa : Array Value) (fb : Array Value) (w : World) (R : Ending → World → Prop) : Prop :=
 ∃ (I : List Value → World → Prop),
 ∃ (m : List Value → World → Nat),
 I [Value.int IntKind.i64 0] w ∧
 ∀ (x : Int) (w' : World),
 I [Value.int IntKind.i64 x] w' →
 bsp (decide (x < (↑n : Int)))
 (nn true p fun (b o : Nat) =>
 (0 ≤ x ∧ x < (↑n : Int)) ∧
 ∃ (x_1 : Int),
 w'.cell? (Addr.mk b (o + x.toNat) none) = some (Value.int IntKind.u8 x_1) ∧
 ∃ (f_1 : Nat),
 ∃ (a : Array Value),
 ∃ (b : Array Value),
 Value.func (Fn.func f) fa fb = Value.func (Fn.func f_1) a b ∧
 okFn Tryz.prog f_1 = true ∧
 CallsS Tryz.prog f_1 (appA a [Value.int IntKind.u8 x_1] b) w' fun (e : Ending) (w'_1 : World) =>
 ∃ (x_2 : Bool),
 e = Ending.returned (Value.bool x_2) ∧
 KeptL [] w' w'_1 ∧
 bsp x_2 (R (Ending.returned (Value.int IntKind.i64 x)) w'_1)
 (I [Value.int IntKind.i64 (IntKind.i64.wrap (x + 1))] w'_1 ∧
 m [Value.int IntKind.i64 (IntKind.i64.wrap (x + 1))] w'_1 < m [Value.int IntKind.i64 x] w'))
 (R (Ending.returned (Value.int IntKind.i64 (-1))) w')
theorem vc_bidx (p : Option Addr) (n : Nat) (c : Nat) (f : FuncId) (fa : Array Value) (fb : Array Value) (w : World) (R : Ending → World → Prop) (h : VC_bidx p n c f fa fb w R) : Calls Tryz.prog 134 ([Value.slice
    p n c,
  Value.func (Fn.func f) fa fb] : List Value).toArray w R := by
  have e : execR2 { P := Tryz.prog, loops := [(2, [(8, Ck.int IntKind.i64)])], pur := pur1, tails := [], joins := [], boxes := [] } Tryz.f134.results.toList R (Tryz.f134.body.getD .skip) (initF [Value.slice
    p n c,
  Value.func (Fn.func f) fa
    fb] (Tryz.f134.ntmps - ([Value.slice p n c,
  Value.func (Fn.func f) fa fb] : List Value).length)) w = VC_bidx p n c f fa fb w R := by kernel_rfl
  have hb : Tryz.f134.body = some (Tryz.f134.body.getD .skip) := by kernel_rfl
  exact calls_of_exec2' (P := Tryz.prog) (fn := Tryz.f134) (c := Tryz.f134.body.getD .skip) (args := [Value.slice p n c,
  Value.func (Fn.func f) fa fb]) (w := w) (R := R) pur1_ok Tryz.func134 hb e h

def VC_bcon (p : Option Addr) (n : Nat) (c : Nat) (f : FuncId) (fa : Array Value) (fb : Array Value) (w : World) (R : Ending → World → Prop) : Prop :=
 CallsS Tryz.prog 134 #[Value.slice p n c, Value.func (Fn.func f) fa fb] w fun (e : Ending) (w' : World) =>
 ∃ (x : Int),
 e = Ending.returned (Value.int IntKind.i64 x) ∧ KeptL [] w w' ∧ R (Ending.returned (Value.bool (decide (x ≥ 0)))) w'
theorem vc_bcon (p : Option Addr) (n : Nat) (c : Nat) (f : FuncId) (fa : Array Value) (fb : Array Value) (w : World) (R : Ending → World → Prop) (h : VC_bcon p n c f fa fb w R) : Calls Tryz.prog 111 ([Value.slice
    p n c,
  Value.func (Fn.func f) fa fb] : List Value).toArray w R := by
  have e : execR2 { P := Tryz.prog, loops := [], pur := pur1, tails := [], joins := [], boxes := [] } Tryz.f111.results.toList R (Tryz.f111.body.getD .skip) (initF [Value.slice
    p n c,
  Value.func (Fn.func f) fa
    fb] (Tryz.f111.ntmps - ([Value.slice p n c,
  Value.func (Fn.func f) fa fb] : List Value).length)) w = VC_bcon p n c f fa fb w R := by kernel_rfl
  have hb : Tryz.f111.body = some (Tryz.f111.body.getD .skip) := by kernel_rfl
  exact calls_of_exec2' (P := Tryz.prog) (fn := Tryz.f111) (c := Tryz.f111.body.getD .skip) (args := [Value.slice p n c,
  Value.func (Fn.func f) fa fb]) (w := w) (R := R) pur1_ok Tryz.func111 hb e h

def VC_sidx (p : Option Addr) (n : Nat) (c : Nat) (f : FuncId) (fa : Array Value) (fb : Array Value) (w : World) (R : Ending → World → Prop) : Prop :=
 ∃ (I : List Value → World → Prop),
 ∃ (m : List Value → World → Nat),
 I [Value.int IntKind.i64 0] w ∧
 ∀ (x : Int) (w' : World),
 I [Value.int IntKind.i64 x] w' →
 bsp (decide (x < (↑n : Int)))
 (nn true p fun (b o : Nat) =>
 (0 ≤ x ∧ x < (↑n : Int)) ∧
 ∃ (x_1 : ByteArray),
 w'.cell? (Addr.mk b (o + x.toNat) none) = some (Value.string x_1) ∧
 ∃ (f_1 : Nat),
 ∃ (a : Array Value),
 ∃ (b : Array Value),
 Value.func (Fn.func f) fa fb = Value.func (Fn.func f_1) a b ∧
 okFn Tryz.prog f_1 = true ∧
 CallsS Tryz.prog f_1 (appA a [Value.string x_1] b) w' fun (e : Ending) (w'_1 : World) =>
 ∃ (x_2 : Bool),
 e = Ending.returned (Value.bool x_2) ∧
 KeptL [] w' w'_1 ∧
 bsp x_2 (R (Ending.returned (Value.int IntKind.i64 x)) w'_1)
 (I [Value.int IntKind.i64 (IntKind.i64.wrap (x + 1))] w'_1 ∧
 m [Value.int IntKind.i64 (IntKind.i64.wrap (x + 1))] w'_1 < m [Value.int IntKind.i64 x] w'))
 (R (Ending.returned (Value.int IntKind.i64 (-1))) w')
theorem vc_sidx (p : Option Addr) (n : Nat) (c : Nat) (f : FuncId) (fa : Array Value) (fb : Array Value) (w : World) (R : Ending → World → Prop) (h : VC_sidx p n c f fa fb w R) : Calls Tryz.prog 109 ([Value.slice
    p n c,
  Value.func (Fn.func f) fa fb] : List Value).toArray w R := by
  have e : execR2 { P := Tryz.prog, loops := [(2, [(8, Ck.int IntKind.i64)])], pur := pur1, tails := [], joins := [], boxes := [] } Tryz.f109.results.toList R (Tryz.f109.body.getD .skip) (initF [Value.slice
    p n c,
  Value.func (Fn.func f) fa
    fb] (Tryz.f109.ntmps - ([Value.slice p n c,
  Value.func (Fn.func f) fa fb] : List Value).length)) w = VC_sidx p n c f fa fb w R := by kernel_rfl
  have hb : Tryz.f109.body = some (Tryz.f109.body.getD .skip) := by kernel_rfl
  exact calls_of_exec2' (P := Tryz.prog) (fn := Tryz.f109) (c := Tryz.f109.body.getD .skip) (args := [Value.slice p n c,
  Value.func (Fn.func f) fa fb]) (w := w) (R := R) pur1_ok Tryz.func109 hb e h

def VC_scon (p : Option Addr) (n : Nat) (c : Nat) (f : FuncId) (fa : Array Value) (fb : Array Value) (w : World) (R : Ending → World → Prop) : Prop :=
 CallsS Tryz.prog 109 #[Value.slice p n c, Value.func (Fn.func f) fa fb] w fun (e : Ending) (w' : World) =>
 ∃ (x : Int),
 e = Ending.returned (Value.int IntKind.i64 x) ∧ KeptL [] w w' ∧ R (Ending.returned (Value.bool (decide (x ≥ 0)))) w'
theorem vc_scon (p : Option Addr) (n : Nat) (c : Nat) (f : FuncId) (fa : Array Value) (fb : Array Value) (w : World) (R : Ending → World → Prop) (h : VC_scon p n c f fa fb w R) : Calls Tryz.prog 88 ([Value.slice
    p n c,
  Value.func (Fn.func f) fa fb] : List Value).toArray w R := by
  have e : execR2 { P := Tryz.prog, loops := [], pur := pur1, tails := [], joins := [], boxes := [] } Tryz.f88.results.toList R (Tryz.f88.body.getD .skip) (initF [Value.slice
    p n c,
  Value.func (Fn.func f) fa
    fb] (Tryz.f88.ntmps - ([Value.slice p n c,
  Value.func (Fn.func f) fa fb] : List Value).length)) w = VC_scon p n c f fa fb w R := by kernel_rfl
  have hb : Tryz.f88.body = some (Tryz.f88.body.getD .skip) := by kernel_rfl
  exact calls_of_exec2' (P := Tryz.prog) (fn := Tryz.f88) (c := Tryz.f88.body.getD .skip) (args := [Value.slice p n c,
  Value.func (Fn.func f) fa fb]) (w := w) (R := R) pur1_ok Tryz.func88 hb e h

def VC_gisl (c : Int) (w : World) (R : Ending → World → Prop) : Prop :=
 R (Ending.returned (Value.bool (decide (c ≥ 97) && decide (c ≤ 122)))) w
theorem vc_gisl (c : Int) (w : World) (R : Ending → World → Prop) (h : VC_gisl c w R) : Calls Tryz.prog 110 ([Value.int
    IntKind.u8 c] : List Value).toArray w R := by
  have e : execR2 { P := Tryz.prog, loops := [], pur := pur1, tails := [], joins := [], boxes := [] } Tryz.f110.results.toList R (Tryz.f110.body.getD .skip) (initF [Value.int
    IntKind.u8 c] (Tryz.f110.ntmps - ([Value.int IntKind.u8 c] : List Value).length)) w = VC_gisl c w R := by kernel_rfl
  have hb : Tryz.f110.body = some (Tryz.f110.body.getD .skip) := by kernel_rfl
  exact calls_of_exec2' (P := Tryz.prog) (fn := Tryz.f110) (c := Tryz.f110.body.getD .skip) (args := [Value.int
    IntKind.u8 c]) (w := w) (R := R) pur1_ok Tryz.func110 hb e h

def VC_gcomp (s : ByteArray) (w : World) (R : Ending → World → Prop) : Prop :=
 gimp (!(s.toList == [] || decide ((↑s.size : Int) > 20))) ((0 : Int) ≤ 0 ∧ 0 < (↑s.size : Int)) ∧
 bsp (!(s.toList == [] || decide ((↑s.size : Int) > 20)))
 (CallsS Tryz.prog 110 #[Value.int IntKind.u8 (at8 s 0)] w fun (e : Ending) (w' : World) =>
 ∃ (x : Bool),
 e = Ending.returned (Value.bool x) ∧
 KeptL [] w w' ∧
 bsp (false || !x) (R (Ending.returned (Value.bool false)) w')
 (∀ (c n : Nat) (w1 : World),
 s.size ≤ c →
 NewB w'.drew (Obj.cells (bytesRow s c) 5 ((bytesRow s c).size, (bytesRow s c).size + 1)) n w1 →
 KeptL [] w' w1 ∧
 CallsS Tryz.prog 111 #[Value.slice (some (Addr.mk n 0 none)) s.size c, Value.func (Fn.func 112) #[] #[]] w1
 fun (e : Ending) (w' : World) =>
 ∃ (x : Bool), e = Ending.returned (Value.bool x) ∧ KeptL [] w1 w' ∧ R (Ending.returned (Value.bool !x)) w'))
 (KeptL [] w w ∧ R (Ending.returned (Value.bool false)) w)
theorem vc_gcomp (s : ByteArray) (w : World) (R : Ending → World → Prop) (h : VC_gcomp s w R) : Calls Tryz.prog 90 ([Value.string
    s] : List Value).toArray w R := by
  have e : execR2 { P := Tryz.prog, loops := [], pur := pur1, tails := [], joins := [], boxes := [] } Tryz.f90.results.toList R (Tryz.f90.body.getD .skip) (initF [Value.string
    s] (Tryz.f90.ntmps - ([Value.string s] : List Value).length)) w = VC_gcomp s w R := by kernel_rfl
  have hb : Tryz.f90.body = some (Tryz.f90.body.getD .skip) := by kernel_rfl
  exact calls_of_exec2' (P := Tryz.prog) (fn := Tryz.f90) (c := Tryz.f90.body.getD .skip) (args := [Value.string
    s]) (w := w) (R := R) pur1_ok Tryz.func90 hb e h

def VC_gcompC (c : Int) (w : World) (R : Ending → World → Prop) : Prop :=
 CallsS Tryz.prog 110 #[Value.int IntKind.u8 c] w fun (e : Ending) (w' : World) =>
 ∃ (x : Bool),
 e = Ending.returned (Value.bool x) ∧
 KeptL [] w w' ∧
 R (Ending.returned (Value.bool (!x && (decide (c < 48) || decide (c > 57)) && c != 45 && c != 43 && c != 95))) w'
theorem vc_gcompC (c : Int) (w : World) (R : Ending → World → Prop) (h : VC_gcompC c w R) : Calls Tryz.prog 112 ([Value.int
    IntKind.u8 c] : List Value).toArray w R := by
  have e : execR2 { P := Tryz.prog, loops := [], pur := pur1, tails := [], joins := [], boxes := [] } Tryz.f112.results.toList R (Tryz.f112.body.getD .skip) (initF [Value.int
    IntKind.u8
    c] (Tryz.f112.ntmps - ([Value.int IntKind.u8 c] : List Value).length)) w = VC_gcompC c w R := by kernel_rfl
  have hb : Tryz.f112.body = some (Tryz.f112.body.getD .skip) := by kernel_rfl
  exact calls_of_exec2' (P := Tryz.prog) (fn := Tryz.f112) (c := Tryz.f112.body.getD .skip) (args := [Value.int
    IntKind.u8 c]) (w := w) (R := R) pur1_ok Tryz.func112 hb e h

def VC_gcheck (s : ByteArray) (w : World) (R : Ending → World → Prop) : Prop :=
 bsp (decide ((↑s.size : Int) > 80)) (R (Ending.returned (Value.int IntKind.i64 5)) w)
 (CallsS Tryz.prog 87 #[Value.string s] w fun (e : Ending) (w' : World) =>
 ∃ (p : Option Addr),
 ∃ (n : Nat),
 ∃ (c : Nat),
 e = Ending.returned (Value.slice p n c) ∧
 KeptL [] w w' ∧
 CallsS Tryz.prog 88 #[Value.slice p n c, Value.func (Fn.func 89) #[] #[]] w' fun (e : Ending) (w'_1 : World) =>
 ∃ (x : Bool),
 e = Ending.returned (Value.bool x) ∧
 KeptL [] w' w'_1 ∧
 bsp x (R (Ending.returned (Value.int IntKind.i64 12)) w'_1)
 (bsp (decide ((↑n : Int) > 10)) (R (Ending.returned (Value.int IntKind.i64 9)) w'_1)
 (R (Ending.returned (Value.int IntKind.i64 0)) w'_1)))
theorem vc_gcheck (s : ByteArray) (w : World) (R : Ending → World → Prop) (h : VC_gcheck s w R) : Calls Tryz.prog 49 ([Value.string
    s] : List Value).toArray w R := by
  have e : execR2 { P := Tryz.prog, loops := [], pur := pur1, tails := [], joins := [], boxes := [] } Tryz.f49.results.toList R (Tryz.f49.body.getD .skip) (initF [Value.string
    s] (Tryz.f49.ntmps - ([Value.string s] : List Value).length)) w = VC_gcheck s w R := by kernel_rfl
  have hb : Tryz.f49.body = some (Tryz.f49.body.getD .skip) := by kernel_rfl
  exact calls_of_exec2' (P := Tryz.prog) (fn := Tryz.f49) (c := Tryz.f49.body.getD .skip) (args := [Value.string
    s]) (w := w) (R := R) pur1_ok Tryz.func49 hb e h

def VC_gcheckC (s : ByteArray) (w : World) (R : Ending → World → Prop) : Prop :=
 CallsS Tryz.prog 90 #[Value.string s] w fun (e : Ending) (w' : World) =>
 ∃ (x : Bool), e = Ending.returned (Value.bool x) ∧ KeptL [] w w' ∧ R (Ending.returned (Value.bool !x)) w'
theorem vc_gcheckC (s : ByteArray) (w : World) (R : Ending → World → Prop) (h : VC_gcheckC s w R) : Calls Tryz.prog 89 ([Value.string
    s] : List Value).toArray w R := by
  have e : execR2 { P := Tryz.prog, loops := [], pur := pur1, tails := [], joins := [], boxes := [] } Tryz.f89.results.toList R (Tryz.f89.body.getD .skip) (initF [Value.string
    s] (Tryz.f89.ntmps - ([Value.string s] : List Value).length)) w = VC_gcheckC s w R := by kernel_rfl
  have hb : Tryz.f89.body = some (Tryz.f89.body.getD .skip) := by kernel_rfl
  exact calls_of_exec2' (P := Tryz.prog) (fn := Tryz.f89) (c := Tryz.f89.body.getD .skip) (args := [Value.string
    s]) (w := w) (R := R) pur1_ok Tryz.func89 hb e h

def VC_gparts (s : ByteArray) (w : World) (R : Ending → World → Prop) : Prop :=
 CallsS Tryz.prog 108 #[Value.string s, Value.string (ByteArray.mk #[46])] w fun (e : Ending) (w' : World) =>
 ∃ (p : Option Addr),
 ∃ (n : Nat),
 ∃ (c : Nat), e = Ending.returned (Value.slice p n c) ∧ KeptL [] w w' ∧ R (Ending.returned (Value.slice p n c)) w'
theorem vc_gparts (s : ByteArray) (w : World) (R : Ending → World → Prop) (h : VC_gparts s w R) : Calls Tryz.prog 87 ([Value.string
    s] : List Value).toArray w R := by
  have e : execR2 { P := Tryz.prog, loops := [], pur := pur1, tails := [], joins := [], boxes := [] } Tryz.f87.results.toList R (Tryz.f87.body.getD .skip) (initF [Value.string
    s] (Tryz.f87.ntmps - ([Value.string s] : List Value).length)) w = VC_gparts s w R := by kernel_rfl
  have hb : Tryz.f87.body = some (Tryz.f87.body.getD .skip) := by kernel_rfl
  exact calls_of_exec2' (P := Tryz.prog) (fn := Tryz.f87) (c := Tryz.f87.body.getD .skip) (args := [Value.string
    s]) (w := w) (R := R) pur1_ok Tryz.func87 hb e h

end Go.Proofs.YtfacflbmlfbeeaaGreatDoor

/-
  DERIVED: THE SHELF's CONTRACTS AT THIS DUMP, IN PLAIN WORDS (tools/lay-plain.mjs out of 'TryzShelf.lean', which tools/lay-shelf.mjs wrote): THE SAME DECLARATIONS UNDER THE SAME NAMES: 'import', 'namespace', 'open', 'def', 'theorem' AND NOTHING ELSE: no command of the shelf's: FOR A HAND-IN. Each laying: the table of numbers ('.._ren') and one theorem, a field a fact of the dump's own or the kernel's comparison; each contract: ONE APPLICATION.
-/
namespace Go.Proofs
open Go.Shelf
def Tryz.lays122_ren : Go.Shelf.Ren := ⟨fun | 122 => 100 | 215 => 127 | n => n, fun | 3 => 3 | 4 => 4 | n => n, fun | n => n⟩
theorem Tryz.lays122 : Go.Proofs.Lays.n122 Tryz.prog Tryz.lays122_ren := {
  mixed := by kernel_rfl
  f122 := Tryz.func100.trans (congrArg some (by kernel_rfl))
  f215 := Tryz.func127.trans (congrArg some (by kernel_rfl))
  t3 := Tryz.underlying3
  a3 := Tryz.isAgg3
  z3 := Tryz.sizeOf3
  v3 := Tryz.zeroValue3
  t4 := Tryz.underlying4
  a4 := Tryz.isAgg4
  z4 := Tryz.sizeOf4
  v4 := Tryz.zeroValue4 }
open Go.RowKit in
/-- cmp.Compare at int: "Compare returns -1 if x is less than y, 0 if x equals y, +1 if x is greater than y.": IT RETURNS 'Lib.compareInt x y'; the world is as it was. (LAID: no walk: one application.) -/
theorem Tryz.cmp_Compare_int (x y : Int) (w : World) :
    Calls Tryz.prog 100 #[.int .i64 x, .int .i64 y] w fun e w' => e = .returned (.int .i64 (Lib.compareInt x y)) ∧ w' = w := Any.cmp_Compare_int Tryz.lays122 x y w
def Tryz.lays146_ren : Go.Shelf.Ren := ⟨fun | 146 => 108 | 221 => 133 | 268 => 154 | 138 => 155 | 143 => 156 | 195 => 164 | 197 => 165 | 218 => 166 | 219 => 167 | 260 => 169 | 217 => 170 | 225 => 171 | 224 => 172 | 267 => 173 | 266 => 174 | 314 => 175 | n => n, fun | 9 => 9 | 31 => 120 | 3 => 3 | 4 => 4 | 0 => 0 | 105 => 210 | 21 => 21 | 5 => 5 | 46 => 148 | 119 => 214 | 139 => 217 | 138 => 216 | 146 => 218 | 51 => 179 | n => n, fun | 1 => 0 | 3 => 1 | 4 => 2 | n => n⟩
theorem Tryz.lays146 : Go.Proofs.Lays.n146 Tryz.prog Tryz.lays146_ren := {
  mixed := by kernel_rfl
  f138 := Tryz.func155.trans (congrArg some (by kernel_rfl))
  f143 := Tryz.func156.trans (congrArg some (by kernel_rfl))
  f146 := Tryz.func108.trans (congrArg some (by kernel_rfl))
  f195 := Tryz.func164.trans (congrArg some (by kernel_rfl))
  f197 := Tryz.func165.trans (congrArg some (by kernel_rfl))
  f217 := Tryz.func170.trans (congrArg some (by kernel_rfl))
  f218 := Tryz.func166.trans (congrArg some (by kernel_rfl))
  f219 := Tryz.func167.trans (congrArg some (by kernel_rfl))
  f221 := Tryz.func133.trans (congrArg some (by kernel_rfl))
  f224 := Tryz.func172.trans (congrArg some (by kernel_rfl))
  f225 := Tryz.func171.trans (congrArg some (by kernel_rfl))
  f260 := Tryz.func169.trans (congrArg some (by kernel_rfl))
  f266 := Tryz.func174.trans (congrArg some (by kernel_rfl))
  f267 := Tryz.func173.trans (congrArg some (by kernel_rfl))
  f268 := Tryz.func154.trans (congrArg some (by kernel_rfl))
  f314 := Tryz.func175.trans (congrArg some (by kernel_rfl))
  t0 := Tryz.underlying0
  a0 := Tryz.isAgg0
  z0 := Tryz.sizeOf0
  v0 := Tryz.zeroValue0
  t3 := Tryz.underlying3
  a3 := Tryz.isAgg3
  z3 := Tryz.sizeOf3
  v3 := Tryz.zeroValue3
  t4 := Tryz.underlying4
  a4 := Tryz.isAgg4
  z4 := Tryz.sizeOf4
  v4 := Tryz.zeroValue4
  t5 := Tryz.underlying5
  a5 := Tryz.isAgg5
  z5 := Tryz.sizeOf5
  v5 := Tryz.zeroValue5
  t9 := Tryz.underlying9
  a9 := Tryz.isAgg9
  z9 := Tryz.sizeOf9
  v9 := Tryz.zeroValue9
  t21 := Tryz.underlying21
  a21 := Tryz.isAgg21
  z21 := Tryz.sizeOf21
  v21 := Tryz.zeroValue21
  t31 := Tryz.underlying120
  a31 := Tryz.isAgg120
  z31 := Tryz.sizeOf120
  v31 := Tryz.zeroValue120
  t46 := Tryz.underlying148
  a46 := Tryz.isAgg148
  z46 := Tryz.sizeOf148
  v46 := Tryz.zeroValue148
  t51 := Tryz.underlying179
  a51 := Tryz.isAgg179
  z51 := Tryz.sizeOf179
  v51 := Tryz.zeroValue179
  t105 := Tryz.underlying210
  a105 := Tryz.isAgg210
  z105 := Tryz.sizeOf210
  v105 := Tryz.zeroValue210
  t119 := Tryz.underlying214
  a119 := Tryz.isAgg214
  z119 := Tryz.sizeOf214
  t138 := Tryz.underlying216
  a138 := Tryz.isAgg216
  z138 := Tryz.sizeOf216
  v138 := Tryz.zeroValue216
  t139 := Tryz.underlying217
  a139 := Tryz.isAgg217
  z139 := Tryz.sizeOf217
  v139 := Tryz.zeroValue217
  t146 := Tryz.underlying218
  a146 := Tryz.isAgg218
  z146 := Tryz.sizeOf218
  v146 := Tryz.zeroValue218
  g1 := by kernel_rfl
  g3 := by kernel_rfl
  g4 := by kernel_rfl }
open Go.RowKit Go.Lib in
/-- strings.Split. (LAID: no walk: one application.) -/
theorem Tryz.strings_Split (s sep : ByteArray) (m : Int) (w : World) (hs : s.size < 4294967281) (hm : w.cell? ⟨0, 0, none⟩ = some (.int .i64 m)) (h1 : 1 ≤ sep.size) :
    Calls Tryz.prog 108 #[.string s, .string sep] w fun e w' =>
      e = .returned (.slice (some ⟨w.heap.size, 0, none⟩) (Lib.countB s sep + 1) (Lib.countB s sep + 1)) ∧ w' = w.alloc (.cells ((Lib.splitB sep 0 (Lib.countB s sep) s).map Value.string).toArray 9) := Any.strings_Split Tryz.lays146 (by kernel_rfl) s sep m w hs hm h1
end Go.Proofs

/- Chapter 21: the contracts of groupname.Check and of the reference's Check of a name. The library's variable MaxLen holds a number. -/
namespace Go.Proofs.YtfacflbmlfbeeaaGreatDoor
open Go.RowKit
/-- The library's variable MaxLen holds a number. -/
def GW (w : World) : Prop := ∃ m, w.cell? ⟨0, 0, none⟩ = some (.int .i64 m)
theorem GW.kp {M : Nat → Prop} {w w' : World} (h : GW w) (hk : Kp M w w') (hm : ¬ M 0) : GW w' := by
  obtain ⟨m, h⟩ := h; exact ⟨m, hk.cell' h hm⟩
theorem byte_cell {w : World} {g : Nat} {s : ByteArray} {c : Nat} {t : TypeId} {fz : Nat × Nat} (h : w.heap[g]? = some (.cells (bytesRow s c) t fz)) {k : Nat} (hk : k < s.size) : w.cell? ⟨g, 0 + k, none⟩ = some (.int .u8 (at8 s k)) := by
  rw [cell_block h, Nat.zero_add, bytesRow_at s c k hk, at8_lt s k hk]
  rfl
theorem nn_is {g : Bool} {p : Option Addr} {b o : Nat} {K : Nat → Nat → Prop} (hp : p = some ⟨b, o, none⟩) (h : K b o) : nn g p K := by subst hp; exact h
theorem str_get {w : World} {p : Option Addr} {zs : List ByteArray} (h : StrP w p zs) {k : Nat} (hk : k < zs.length) : ∃ z b o, zs[k]? = some z ∧ p = some ⟨b, o, none⟩ ∧ w.cell? ⟨b, o + k, none⟩ = some (.string z) := h.get hk
theorem bcon_any (s : ByteArray) (b c : Nat) (f : FuncId) (fa fb : Array Value) (g : Int → Bool) (w : World) (hS : ∀ k, k < s.size → w.cell? ⟨b, 0 + k, none⟩ = some (.int .u8 (at8 s k))) (hs : s.size ≤ 1073741824) (hok : okFn Tryz.prog f = true)
    (hF : ∀ x, ∀ w1, K0 w w1 → Calls Tryz.prog f (appA fa [.int .u8 x] fb) w1 fun e w2 => e = .returned (.bool (g x)) ∧ K0 w1 w2) :
    Calls Tryz.prog 111 #[.slice (some ⟨b, 0, none⟩) s.size c, .func (.func f) fa fb] w fun e w' => e = .returned (.bool ((List.range s.size).any fun i => g (at8 s i))) ∧ K0 w w' := by
  have hidx : Calls Tryz.prog 134 #[.slice (some ⟨b, 0, none⟩) s.size c, .func (.func f) fa fb] w fun e w' => (∃ x : Int, e = .returned (.int .i64 x) ∧ decide (x ≥ 0) = (List.range s.size).any fun i => g (at8 s i)) ∧ K0 w w' := by
    refine vc_bidx (some ⟨b, 0, none⟩) s.size c f fa fb w _ ?_
    refine ⟨fun vs w' => ∃ i : Nat, vs = [.int .i64 (i : Int)] ∧ i ≤ s.size ∧ (∀ j, j < i → g (at8 s j) = false) ∧ K0 w w',
      fun vs _ => (match vs with | .int _ x :: _ => s.size - x.toNat | _ => 0), ⟨0, rfl, by omega, (fun j h => by omega), .refl _ _⟩, ?_⟩
    rintro x w1 ⟨i, hv, hi, hall, k1⟩
    simp only [List.cons.injEq, Value.int.injEq, true_and, and_true] at hv
    subst hv
    refine bsp_intro (fun hlt => ?_) (fun hge => ?_)
    · have hlt : i < s.size := by simp at hlt; omega
      rw [Int.toNat_natCast]
      refine nn_is rfl ⟨⟨by omega, by omega⟩, at8 s i, k1.cell' (hS i hlt) (fun h => h), f, fa, fb, rfl, hok, ⟨(hF (at8 s i) w1 k1).mono fun e w2 ⟨he, k2⟩ => ⟨_, he, .of_k0 k2, bsp_intro (fun hg => ?_) (fun hg => ?_)⟩⟩⟩
      · refine ⟨⟨i, rfl, ?_⟩, k1.trans k2⟩
        have : ((List.range s.size).any fun i => g (at8 s i)) = true := List.any_eq_true.2 ⟨i, List.mem_range.2 hlt, hg⟩
        rw [this]; simp
      · refine ⟨⟨i + 1, by rw [inc64 (by omega)], hlt, fun j hj => ?_, k1.trans k2⟩, by rw [inc64 (by omega)]; simp only [Int.toNat_natCast]; omega⟩
        by_cases e : j = i
        · rw [e]; exact hg
        · exact hall j (by omega)
    · have hi : i = s.size := by simp at hge; omega
      subst hi
      refine ⟨⟨-1, rfl, ?_⟩, k1⟩
      have : ((List.range s.size).any fun i => g (at8 s i)) = false := List.any_eq_false.2 fun j hj => by simpa using hall j (List.mem_range.1 hj)
      rw [this]; rfl
  refine vc_bcon (some ⟨b, 0, none⟩) s.size c f fa fb w _ ⟨hidx.mono fun e w1 ⟨⟨x, he, hx⟩, k1⟩ => ⟨_, he, .of_k0 k1, by rw [hx], k1⟩⟩
theorem scon_any (l : List ByteArray) (p : Option Addr) (c : Nat) (f : FuncId) (fa fb : Array Value) (g : ByteArray → Bool) (w : World) (hR : StrP w p l) (hs : l.length ≤ 1073741824) (hok : okFn Tryz.prog f = true)
    (hF : ∀ x, ∀ w1, K0 w w1 → Calls Tryz.prog f (appA fa [.string x] fb) w1 fun e w2 => e = .returned (.bool (g x)) ∧ K0 w1 w2) :
    Calls Tryz.prog 88 #[.slice p l.length c, .func (.func f) fa fb] w fun e w' => e = .returned (.bool (l.any g)) ∧ K0 w w' := by
  have hidx : Calls Tryz.prog 109 #[.slice p l.length c, .func (.func f) fa fb] w fun e w' => (∃ x : Int, e = .returned (.int .i64 x) ∧ decide (x ≥ 0) = l.any g) ∧ K0 w w' := by
    refine vc_sidx p l.length c f fa fb w _ ?_
    refine ⟨fun vs w' => ∃ i : Nat, vs = [.int .i64 (i : Int)] ∧ i ≤ l.length ∧ (∀ j z, j < i → l[j]? = some z → g z = false) ∧ K0 w w',
      fun vs _ => (match vs with | .int _ x :: _ => l.length - x.toNat | _ => 0), ⟨0, rfl, by omega, (fun j z h => by omega), .refl _ _⟩, ?_⟩
    rintro x w1 ⟨i, hv, hi, hall, k1⟩
    simp only [List.cons.injEq, Value.int.injEq, true_and, and_true] at hv
    subst hv
    refine bsp_intro (fun hlt => ?_) (fun hge => ?_)
    · have hlt : i < l.length := by simp at hlt; omega
      obtain ⟨z, b, o, hz, hp, hc⟩ := str_get (hR.k0 k1) hlt
      rw [Int.toNat_natCast]
      refine nn_is hp ⟨⟨by omega, by omega⟩, z, hc, f, fa, fb, rfl, hok, ⟨(hF z w1 k1).mono fun e w2 ⟨he, k2⟩ => ⟨_, he, .of_k0 k2, bsp_intro (fun hg => ?_) (fun hg => ?_)⟩⟩⟩
      · refine ⟨⟨i, rfl, ?_⟩, k1.trans k2⟩
        have : l.any g = true := List.any_eq_true.2 ⟨z, List.mem_of_getElem? hz, hg⟩
        rw [this]; simp
      · refine ⟨⟨i + 1, by rw [inc64 (by omega)], hlt, fun j y hj hy => ?_, k1.trans k2⟩, by rw [inc64 (by omega)]; simp only [Int.toNat_natCast]; omega⟩
        by_cases e : j = i
        · rw [e, hz] at hy; cases hy; exact hg
        · exact hall j y (by omega) hy
    · have hi : i = l.length := by simp at hge; omega
      subst hi
      refine ⟨⟨-1, rfl, ?_⟩, k1⟩
      have : l.any g = false := List.any_eq_false.2 fun z hz => by
        obtain ⟨j, hj, e⟩ := List.getElem_of_mem hz
        simpa using hall j z hj (by rw [List.getElem?_eq_getElem hj, e])
      rw [this]; rfl
  refine vc_scon p l.length c f fa fb w _ ⟨hidx.mono fun e w1 ⟨⟨x, he, hx⟩, k1⟩ => ⟨_, he, .of_k0 k1, by rw [hx], k1⟩⟩

/-! ### The program's -/
theorem gisl_any (c : Int) (w : World) : Calls Tryz.prog 110 #[.int .u8 c] w fun e w' => e = .returned (.bool (lowC c)) ∧ K0 w w' :=
  vc_gisl c w _ ⟨by unfold lowC; simp, .refl _ _⟩
theorem gcompC_any (c : Int) (w : World) : Calls Tryz.prog 112 #[.int .u8 c] w fun e w' => e = .returned (.bool (!compC c)) ∧ K0 w w' := by
  refine vc_gcompC c w _ ⟨(gisl_any c w).mono fun e w1 ⟨he, k1⟩ => ⟨_, he, .of_k0 k1, ?_, k1⟩⟩
  congr 2
  unfold compC
  rw [Bool.eq_iff_iff]
  cases lowC c <;> simp <;> omega
theorem compB_eq {s : ByteArray} (h0 : 0 < s.size) (h1 : s.size ≤ 20) (h2 : lowC (at8 s 0) = true) : compB s = !((List.range s.size).any fun i => !compC (at8 s i)) := by
  unfold compB
  rw [decide_eq_true h0, decide_eq_true h1, h2, List.not_any_eq_all_not]
  simp
theorem gcomp_any (s : ByteArray) (w : World) : Calls Tryz.prog 90 #[.string s] w fun e w' => e = .returned (.bool (compB s)) ∧ K0 w w' := by
  refine vc_gcomp s w _ ?_
  unfold VC_gcomp
  rw [toList_nil]
  refine ⟨gimp_intro fun h => ?_, bsp_intro (fun h => ?_) (fun h => ?_)⟩
  · simp only [Bool.not_eq_true', Bool.or_eq_false_iff, decide_eq_false_iff_not] at h
    omega
  · simp only [Bool.not_eq_true', Bool.or_eq_false_iff, decide_eq_false_iff_not] at h
    have h0 : 0 < s.size := by omega
    have h1 : s.size ≤ 20 := by omega
    refine ⟨(gisl_any (at8 s 0) w).mono fun e w1 ⟨he, k1⟩ => ⟨_, he, .of_k0 k1, bsp_intro (fun h2 => ?_) (fun h2 => ?_)⟩⟩
    · have h2 : lowC (at8 s 0) = false := by simpa using h2
      have : compB s = false := by unfold compB; rw [h2]; simp
      rw [this]; exact ⟨rfl, k1⟩
    · have h2 : lowC (at8 s 0) = true := by simpa using h2
      intro c n w2 hc hn
      have k2 : K0 w1 w2 := (hn.kp (fun _ => False)).of_drew
      refine ⟨.of_k0 k2, ⟨(bcon_any s n c 112 #[] #[] (fun c => !compC c) w2 (fun k hk => byte_cell hn.block hk) (by omega) (by kernel_rfl) (fun x w3 _ => gcompC_any x w3)).mono fun e w3 ⟨he, k3⟩ => ⟨_, he, .of_k0 k3, ?_, (k1.trans k2).trans k3⟩⟩⟩
      rw [compB_eq h0 h1 h2]
  · have h : s.size = 0 ∨ 20 < s.size := by
      simp only [Bool.not_eq_false', Bool.or_eq_true, decide_eq_true_eq] at h
      omega
    have : compB s = false := by
      unfold compB
      rcases h with h | h
      · rw [decide_eq_false (by omega)]; rfl
      · rw [decide_eq_false (show ¬ s.size ≤ 20 by omega)]; simp
    rw [this]
    exact ⟨.refl _ _, rfl, .refl _ _⟩
theorem gcheckC_any (s : ByteArray) (w : World) : Calls Tryz.prog 89 #[.string s] w fun e w' => e = .returned (.bool (!compB s)) ∧ K0 w w' :=
  vc_gcheckC s w _ ⟨(gcomp_any s w).mono fun _ _ ⟨he, k1⟩ => ⟨_, he, .of_k0 k1, rfl, k1⟩⟩
theorem gparts_any (s : ByteArray) (w : World) (hs : s.size ≤ 1073741824) (hG : GW w) : Calls Tryz.prog 87 #[.string s] w fun e w' => (∃ (p : Option Addr) (c : Nat), e = .returned (.slice p (partsD s).length c) ∧ StrP w' p (partsD s)) ∧ K0 w w' := by
  refine vc_gparts s w _ ?_
  obtain ⟨mm, hG1⟩ := hG
  refine ⟨(Tryz.strings_Split s ⟨#[46]⟩ mm w (by omega) hG1 (by decide)).mono fun e w2 ⟨he, hw2⟩ => ?_⟩
  have hlen : (partsD s).length = Lib.countB s ⟨#[46]⟩ + 1 := Lib.splitB_all ⟨#[46]⟩ (by decide) 0 _ s rfl
  have hn2 : NewB w (.cells ((partsD s).map .string).toArray 9) w.heap.size w2 := ⟨rfl, hw2⟩
  rw [← hlen] at he
  have k2 : K0 w w2 := hn2.kp _
  refine ⟨_, _, _, he, .of_k0 k2, ⟨_, _, rfl, fun k z hk => ⟨_, 0, rfl, ?_⟩⟩, k2⟩
  rw [Nat.zero_add]
  exact cell_at hn2.block (by simp [hk])
theorem partsD_le : ∀ (n : Nat) (s : ByteArray), s.size ≤ n → (partsD s).length ≤ s.size + 1
  | n, s, h => by
    have hf := findC_first 46 s
    by_cases hi : findC 46 s < s.size
    · cases n with
      | zero => omega
      | succ n =>
        rw [partsD_hit hf hi, List.length_cons]
        have hz : (s.extract (findC 46 s + 1) s.size).size = s.size - (findC 46 s + 1) := by rw [ByteArray.size_extract]; omega
        have := partsD_le n (s.extract (findC 46 s + 1) s.size) (by omega)
        omega
    · rw [partsD_miss hf hi]; simp
theorem gcheck_any (s : ByteArray) (w : World) (hG : GW w) : Calls Tryz.prog 49 #[.string s] w fun e w' => e = .returned (.int .i64 (gnE s)) ∧ K0 w w' := by
  refine vc_gcheck s w _ (bsp_intro (fun h => ?_) (fun h => ?_))
  · have : gnE s = 5 := by unfold gnE; rw [if_pos (by simp at h; omega)]
    rw [this]; exact ⟨rfl, .refl _ _⟩
  have h80 : ¬ 80 < s.size := by simp at h; omega
  have hle := partsD_le s.size s (Nat.le_refl _)
  unfold gnE
  rw [if_neg h80]
  refine ⟨(gparts_any s w (by omega) hG).mono fun e w1 ⟨⟨p, c, he, hR⟩, k1⟩ => ⟨_, _, _, he, .of_k0 k1, ?_⟩⟩
  refine ⟨(scon_any (partsD s) p c 89 #[] #[] (fun x => !compB x) w1 hR (by omega) (by kernel_rfl) (fun x w2 _ => gcheckC_any x w2)).mono fun e w2 ⟨he, k2⟩ => ⟨_, he, .of_k0 k2, bsp_intro (fun h => ?_) (fun h => ?_)⟩⟩
  · rw [if_pos h]; exact ⟨rfl, k1.trans k2⟩
  rw [if_neg (by rw [h]; decide)]
  refine bsp_intro (fun h => ?_) (fun h => ?_)
  · rw [if_pos (by simp at h; omega)]; exact ⟨rfl, k1.trans k2⟩
  · rw [if_neg (by simp at h; omega)]; exact ⟨rfl, k1.trans k2⟩

/-! ### The reference's -/
end Go.Proofs.YtfacflbmlfbeeaaGreatDoor

/- The formulas of functions by the symbolic evaluator, and that each gives the call's contract. Written by a program (gen.py). No condition. -/
namespace Go.Proofs.YtfacflbmlfbeeaaGreatDoor
set_option maxRecDepth 100000
set_option linter.unusedVariables false

def VC_acont (p : Option Addr) (n : Nat) (c : Nat) (a : Nat → Int) (w : World) (R : Ending → World → Prop) : Prop :=
 ∀ (n_1 : Nat) (W : World),
 Loc w.heap.size
 [Blk.mk n_1 45
 (arrI IntKind.u8 a 16 0)
 2]
 w W →
 CallsS Tryz.prog 132
 #[Value.slice p n c,
 Value.agg
 (arrI IntKind.u8 a 16 0).toArray]
 W fun (e : Ending) (w' : World) =>
 ∃ (x : Int),
 e = Ending.returned (Value.int IntKind.i64 x) ∧
 KeptL [n_1] W w' ∧ R (Ending.returned (Value.bool (decide (x ≥ 0)))) w'
theorem vc_acont (p : Option Addr) (n : Nat) (c : Nat) (a : Nat → Int) (w : World) (R : Ending → World → Prop) (h : VC_acont p n c a w R) : Calls Tryz.prog 107 ([Value.slice
    p n c,
  Value.agg (arrI IntKind.u8 a 16 0).toArray] : List Value).toArray w R := by
  have e : execR2 { P := Tryz.prog, loops := [], pur := pur1, tails := [], joins := [], boxes := [] } Tryz.f107.results.toList R (Tryz.f107.body.getD .skip) (initF [Value.slice
    p n c,
  Value.agg
    (arrI IntKind.u8 a 16
        0).toArray] (Tryz.f107.ntmps - ([Value.slice p n c,
  Value.agg (arrI IntKind.u8 a 16 0).toArray] : List Value).length)) w = VC_acont p n c a w R := by kernel_rfl
  have hb : Tryz.f107.body = some (Tryz.f107.body.getD .skip) := by kernel_rfl
  exact calls_of_exec2' (P := Tryz.prog) (fn := Tryz.f107) (c := Tryz.f107.body.getD .skip) (args := [Value.slice p n c,
  Value.agg (arrI IntKind.u8 a 16 0).toArray]) (w := w) (R := R) pur1_ok Tryz.func107 hb e h

def VC_aidx (p : Option Addr) (n : Nat) (c : Nat) (a : Nat → Int) (w : World) (R : Ending → World → Prop) : Prop :=
 ∀ (n_1 : Nat) (W : World),
 Loc w.heap.size
 [Blk.mk n_1 45
 (arrI IntKind.u8 a 16 0)
 2]
 w W →
 ∃ (I : List Value → World → Prop),
 ∃ (m : List Value → World → Nat),
 I [Value.int IntKind.i64 0] W ∧
 ∀ (x : Int) (w' : World),
 I [Value.int IntKind.i64 x] w' →
 Loc w.heap.size
 [Blk.mk n_1 45
 (arrI IntKind.u8 a 16 0)
 0]
 w' w' →
 bsp (decide (x < (↑n : Int)))
 (nn true p fun (b o : Nat) =>
 (0 ≤ x ∧ x < (↑n : Int)) ∧
 ∃ (f : Nat → Int),
 (∀ (W : World),
 Loc w.heap.size
 [Blk.mk n_1 45
 (arrI IntKind.u8 a 16 0)
 0]
 w' W →
 AtL W b (o + x.toNat * 16)
 (arrI IntKind.u8 f 16 0)) ∧
 ∃ (r : Bool),
 EqP Tryz.prog 45
 (Value.agg
 (arrI IntKind.u8 a 16 0).toArray)
 (Value.agg
 (arrI IntKind.u8 f 16 0).toArray)
 r ∧
 bsp r
 (∀ (W : World),
 Loc w.heap.size
 [Blk.mk n_1 45
 (arrI IntKind.u8 a 16 0)
 0]
 w' W →
 R (Ending.returned (Value.int IntKind.i64 x)) W)
 (∀ (W : World),
 Loc w.heap.size
 [Blk.mk n_1 45
 (arrI IntKind.u8 a 16 0)
 0]
 w' W →
 I [Value.int IntKind.i64 (IntKind.i64.wrap (x + 1))] W ∧
 m [Value.int IntKind.i64 (IntKind.i64.wrap (x + 1))] W < m [Value.int IntKind.i64 x] w'))
 (R (Ending.returned (Value.int IntKind.i64 (-1))) w')
theorem vc_aidx (p : Option Addr) (n : Nat) (c : Nat) (a : Nat → Int) (w : World) (R : Ending → World → Prop) (h : VC_aidx p n c a w R) : Calls Tryz.prog 132 ([Value.slice
    p n c,
  Value.agg (arrI IntKind.u8 a 16 0).toArray] : List Value).toArray w R := by
  have e : execR2 { P := Tryz.prog, loops := [(2, [(8, Ck.int IntKind.i64)])], pur := pur1, tails := [], joins := [], boxes := [] } Tryz.f132.results.toList R (Tryz.f132.body.getD .skip) (initF [Value.slice
    p n c,
  Value.agg
    (arrI IntKind.u8 a 16
        0).toArray] (Tryz.f132.ntmps - ([Value.slice p n c,
  Value.agg (arrI IntKind.u8 a 16 0).toArray] : List Value).length)) w = VC_aidx p n c a w R := by kernel_rfl
  have hb : Tryz.f132.body = some (Tryz.f132.body.getD .skip) := by kernel_rfl
  exact calls_of_exec2' (P := Tryz.prog) (fn := Tryz.f132) (c := Tryz.f132.body.getD .skip) (args := [Value.slice p n c,
  Value.agg (arrI IntKind.u8 a 16 0).toArray]) (w := w) (R := R) pur1_ok Tryz.func132 hb e h

def VC_aclone (p : Option Addr) (n : Nat) (c : Nat) (w : World) (R : Ending → World → Prop) : Prop :=
 bsp p.isNone (R (Ending.returned (Value.slice none 0 0)) w)
 (∀ (n_1 : Nat) (W : World),
 Loc w.heap.size [Blk.mk n_1 45 [] 2] w W →
 ∃ (base : Nat),
 ∃ (xs : List Value),
 ∃ (news : List Value),
 W.ownsRow base 45 16 (Value.slice (some (Addr.mk n_1 0 none)) 0 0) 0 xs ∧
 news.length = n * 16 ∧
 SrcP W p news ∧
 0 + n ≤ 9223372036854775807 ∧
 (0 + n) * 16 ≤ 140737488355328 ∧
 base ≤ W.heap.size ∧
 ∀ (p' : Option Addr) (c' : Nat) (w' : World),
 w'.ownsRow base 45 16 (Value.slice p' (0 + n) c') (0 + n) (xs ++ news) →
 W.grownBy w' (Value.slice (some (Addr.mk n_1 0 none)) 0 0).ownBlock →
 AppL W (some (Addr.mk n_1 0 none)) 0 0 n p' c' →
 KeptL [] W w' ∧ R (Ending.returned (Value.slice p' (0 + n) c')) w')
theorem vc_aclone (p : Option Addr) (n : Nat) (c : Nat) (w : World) (R : Ending → World → Prop) (h : VC_aclone p n c w R) : Calls Tryz.prog 47 ([Value.slice
    p n c] : List Value).toArray w R := by
  have e : execR2 { P := Tryz.prog, loops := [], pur := pur1, tails := [], joins := [], boxes := [] } Tryz.f47.results.toList R (Tryz.f47.body.getD .skip) (initF [Value.slice
    p n c] (Tryz.f47.ntmps - ([Value.slice p n c] : List Value).length)) w = VC_aclone p n c w R := by kernel_rfl
  have hb : Tryz.f47.body = some (Tryz.f47.body.getD .skip) := by kernel_rfl
  exact calls_of_exec2' (P := Tryz.prog) (fn := Tryz.f47) (c := Tryz.f47.body.getD .skip) (args := [Value.slice p n
    c]) (w := w) (R := R) pur1_ok Tryz.func47 hb e h

end Go.Proofs.YtfacflbmlfbeeaaGreatDoor

/- Chapter 21: the contracts of rows of authors, of Definition.Check, clone, Equal. Bytes are bytes; the library's variable MaxLen holds a number. -/
namespace Go.Proofs.YtfacflbmlfbeeaaGreatDoor
open Go.RowKit

def BY (f : Nat → Int) : Prop := ∀ j : Nat, 0 ≤ f j ∧ f j ≤ 255
structure Df.OK (d : Df) : Prop where
  id : BY d.id
  au : BY d.au
  ms : ∀ m ∈ d.ms, BY m
theorem str_eq {a b : ByteArray} (h : a.toList = b.toList) : a = b := by
  rw [ByteArray.toList_eq, ByteArray.toList_eq] at h
  exact ByteArray.ext (Array.toList_inj.1 h)
theorem str_beq (a b : ByteArray) : (a.toList == b.toList) = decide (a = b) := by
  rw [Bool.eq_iff_iff]
  simp only [beq_iff_eq, decide_eq_true_eq]
  exact ⟨str_eq, fun h => by rw [h]⟩
theorem auI_len (f : Nat → Int) : (auI f).length = 16 := by simp [auI]
theorem auI_bd {f : Nat → Int} (h : BY f) : ∀ x ∈ auI f, 0 ≤ x ∧ x ≤ 255 := fun x hx => by
  obtain ⟨j, _, rfl⟩ := List.mem_map.1 hx
  exact h j
theorem auEq {f g : Nat → Int} (hf : BY f) (hg : BY g) : EqP Tryz.prog 45 (.agg (arrI .u8 f 16 0).toArray) (.agg (arrI .u8 g 16 0).toArray) (decide (auI f = auI g)) :=
  eq_bytes Tryz.underlying45 Tryz.underlying5 (by kernel_rfl) (by kernel_rfl) (by kernel_rfl) (by decide +kernel) (by kernel_rfl) (by kernel_rfl) (auI_len f) (auI_bd hf) (auI_len g) (auI_bd hg)
theorem idEqF {f g : Nat → Int} (hf : BY f) (hg : BY g) : EqP Tryz.prog 32 (.agg (arrI .u8 f 32 0).toArray) (.agg (arrI .u8 g 32 0).toArray) (decide (idI f = idI g)) :=
  idEq (idI_len f) (idI_bd hf) (idI_len g) (idI_bd hg)
theorem RowA.take {α : Type} {f : α → List Value} {L : Nat} {w : World} {p : Option Addr} {l : List α} (h : RowA f L w p l) (m : Nat) : RowA f L w p (l.take m) := fun k y hy => by
  rw [List.getElem?_take] at hy
  split at hy
  · exact h k y hy
  · cases hy
theorem src_rowA {α : Type} {f : α → List Value} {L : Nat} {w : World} {p : Option Addr} {l : List α} (h : RowA f L w p l) (hl : ∀ y, (f y).length = L) (h1 : ∀ y, ∀ u ∈ f y, u.oneCell' = true) (h0 : 0 < L) : SrcP w p (l.flatMap f) := by
  refine ⟨fun j u hj => ?_, fun u hu => by obtain ⟨z, _, hz⟩ := List.mem_flatMap.1 hu; exact h1 z u hz⟩
  have hlt := (List.getElem?_eq_some_iff.1 hj).1
  rw [len_flat f L l (fun y _ => hl y)] at hlt
  have hdiv : j / L < l.length := Nat.div_lt_of_lt_mul (by rw [Nat.mul_comm]; exact hlt)
  have hj2 : j / L * L + j % L = j := by rw [Nat.mul_comm]; exact Nat.div_add_mod j L
  obtain ⟨y, b, o, hy, hp, hat⟩ := h.get hdiv
  have h1 := flat_get f L l (j / L) y (j % L) (fun y _ => hl y) hy (Nat.mod_lt _ h0)
  rw [hj2, hj] at h1
  refine ⟨b, o, hp, ?_⟩
  have := hat.cell h1.symm
  rwa [Nat.add_assoc, hj2] at this
theorem arr_one (f : Nat → Int) (n : Nat) : ∀ u ∈ arrI .u8 f n 0, u.oneCell' = true := fun u hu => by
  obtain ⟨j, hj, e⟩ := List.getElem_of_mem hu
  have hl : ∀ (n i : Nat), (arrI .u8 f n i).length = n := fun n => by
    induction n with
    | zero => intro i; rfl
    | succ n ih => intro i; simp [arrI, ih]
  have hj' : j < n := by rw [hl] at hj; exact hj
  have := arrI_get .u8 f n 0 j hj'
  rw [List.getElem?_eq_getElem hj] at this
  simp at this
  rw [← e, this]; rfl
theorem rowA_none {α : Type} {f : α → List Value} {L : Nat} {w : World} {l : List α} (h : RowA f L w none l) : l = [] := by
  cases l with
  | nil => rfl
  | cons x r => obtain ⟨_, _, h, _⟩ := h 0 x rfl; cases h

/-! ### Rows of authors -/
theorem aidx_any (l : List (Nat → Int)) (p : Option Addr) (c : Nat) (a : Nat → Int) (w : World) (hR : RowA auC 16 w p l) (hm : ∀ m ∈ l, BY m) (ha : BY a) (hl : l.length ≤ 4611686018427387904) :
    Calls Tryz.prog 132 #[.slice p l.length c, .agg (arrI .u8 a 16 0).toArray] w fun e w' => (∃ x : Int, e = .returned (.int .i64 x) ∧ decide (x ≥ 0) = decide (auI a ∈ l.map auI)) ∧ K0 w w' := by
  refine vc_aidx p l.length c a w _ (fun n1 W hW => ?_)
  have kW : K0 w W := hW.kk rfl
  refine ⟨fun vs w' => ∃ i : Nat, vs = [.int .i64 (i : Int)] ∧ i ≤ l.length ∧ (∀ (j : Nat) (z : Nat → Int), j < i → l[j]? = some z → auI a ≠ auI z) ∧ K0 w w',
    fun vs _ => (match vs with | .int _ x :: _ => l.length - x.toNat | _ => 0), ⟨0, rfl, by omega, (fun j z h => by omega), kW⟩, ?_⟩
  rintro x w1 ⟨i, hv, hi, hall, k1⟩ _
  simp only [List.cons.injEq, Value.int.injEq, true_and, and_true] at hv
  subst hv
  refine bsp_intro (fun hlt => ?_) (fun hge => ?_)
  · have hlt : i < l.length := by simp at hlt; omega
    obtain ⟨z, b, o, hz, hp, hat⟩ := (hR.k0 k1).get hlt
    rw [Int.toNat_natCast]
    refine nn_is hp ⟨⟨by omega, by omega⟩, z, fun W hW => hat.k0 (hW.kk rfl), _, auEq ha (hm z (List.mem_of_getElem? hz)), bsp_intro (fun h => fun W hW => ?_) (fun h => fun W hW => ?_)⟩
    · have h : auI a = auI z := of_decide_eq_true h
      have : auI a ∈ l.map auI := List.mem_map.2 ⟨z, List.mem_of_getElem? hz, h.symm⟩
      exact ⟨⟨i, rfl, by rw [decide_eq_true this]; simp⟩, k1.trans (hW.kk rfl)⟩
    · have h : ¬ auI a = auI z := of_decide_eq_false h
      refine ⟨⟨i + 1, by rw [inc64 (by omega)], hlt, fun j y hj hy => ?_, k1.trans (hW.kk rfl)⟩, by rw [inc64 (by omega)]; simp only [Int.toNat_natCast]; omega⟩
      by_cases e : j = i
      · rw [e, hz] at hy; cases hy; exact h
      · exact hall j y (by omega) hy
  · have hi : i = l.length := by simp at hge; omega
    subst hi
    have : ¬ auI a ∈ l.map auI := fun hm => by
      obtain ⟨z, hz, e⟩ := List.mem_map.1 hm
      obtain ⟨j, hj, e2⟩ := List.getElem_of_mem hz
      exact hall j z hj (by rw [List.getElem?_eq_getElem hj, e2]) e.symm
    exact ⟨⟨-1, rfl, by rw [decide_eq_false this]; rfl⟩, k1⟩
theorem acont_any (l : List (Nat → Int)) (p : Option Addr) (c : Nat) (a : Nat → Int) (w : World) (hR : RowA auC 16 w p l) (hm : ∀ m ∈ l, BY m) (ha : BY a) (hl : l.length ≤ 4611686018427387904) :
    Calls Tryz.prog 107 #[.slice p l.length c, .agg (arrI .u8 a 16 0).toArray] w fun e w' => e = .returned (.bool (decide (auI a ∈ l.map auI))) ∧ K0 w w' := by
  refine vc_acont p l.length c a w _ (fun n1 W hW => ?_)
  have kW : K0 w W := hW.kk rfl
  exact ⟨(aidx_any l p c a W (hR.k0 kW) hm ha hl).mono fun e w1 ⟨⟨x, he, hx⟩, k1⟩ => ⟨_, he, .of_k0 k1, by rw [hx], kW.trans k1⟩⟩
theorem aclone_any (l : List (Nat → Int)) (p : Option Addr) (c : Nat) (w : World) (hR : RowA auC 16 w p l) (hl : l.length * 16 ≤ 140737488355328) :
    Calls Tryz.prog 47 #[.slice p l.length c] w fun e w' => (∃ (p' : Option Addr) (c' : Nat), e = .returned (.slice p' l.length c') ∧ w'.ownsRow w.heap.size 45 16 (.slice p' l.length c') l.length (l.flatMap auC)) ∧ K0 w w' := by
  refine vc_aclone p l.length c w _ (bsp_intro (fun h => ?_) (fun h => fun n1 W hW => ?_))
  · obtain rfl : p = none := by simpa using h
    have := rowA_none hR
    subst this
    exact ⟨⟨none, 0, rfl, World.ownsRow_nil _ _ _ _⟩, .refl _ _⟩
  have kW : K0 w W := hW.kk rfl
  have g1 : w.heap.size ≤ n1 := hW.fresh 0 rfl rfl
  have h0 := hW.cells 0 rfl
  refine ⟨w.heap.size, [], l.flatMap auC, own_none g1 h0, by rw [len_flat auC 16 l (fun y _ => auC_length y)], src_rowA (hR.k0 kW) auC_length (fun y => arr_one y 16) (by decide), by omega, by omega, kW.size, fun p' c' w' ho hg _ => ?_⟩
  rw [Nat.zero_add] at ho
  rw [Nat.zero_add]
  refine ⟨⟨(kp_grown hg).size, fun _ hx => by cases hx⟩, ⟨p', c', rfl, by simpa using ho⟩, kW.fresh (kp_grown hg) (fun j hj e => by simp only [Value.ownBlock, Option.some.injEq] at e; omega)⟩
end Go.Proofs.YtfacflbmlfbeeaaGreatDoor
