/- Chapter 27, plain: the text of a table and its reading; each is the other's inverse. No program in sight. -/
import Derived.Test.YtgmmoghagpmpfaaGreatDoorZ06
import Derived.Lib.ItoaLen
import Derived.Test.YtgmmoghagpmpfaaGreatDoorZ03
import Derived.Shelf.Strings.BuilderX
import Derived.Lib.Builder
import Derived.Lib.AppendStr
import Derived.Lib.UnsafeStr
import Derived.WalkKit
import Derived.Laws.Externs
import Derived.Shelf.RegionOpenPlain
import Derived.Lib.OthersKept
import Derived.Lib.FrozenHead
import Derived.Test.YtgmmoghagpmpfaaGreatDoorZ05
import Derived.Test.YtgmmoghagpmpfaaGreatDoorZ04
import Derived.Test.YtgmmoghagpmpfaaGreatDoorProg
import Derived.Test.YtgmmoghagpmpfaaGreatDoorZ02
import Derived.KernelRfl
namespace Go.Proofs.YtgmmoghagpmpfaaGreatDoor
open Go.RowKit

/-! ### Texts with a byte between them -/
def joinT (c : UInt8) : List ByteArray → ByteArray
  | [] => ⟨#[]⟩
  | x :: r => r.foldl (fun a y => a ++ ⟨#[c]⟩ ++ y) x
theorem joinT_snoc (c : UInt8) {l : List ByteArray} (h : l ≠ []) (y : ByteArray) : joinT c (l ++ [y]) = joinT c l ++ ⟨#[c]⟩ ++ y := by
  cases l with
  | nil => exact absurd rfl h
  | cons x r => show (r ++ [y]).foldl _ x = _; rw [List.foldl_append]; rfl
theorem joinT_fold (c : UInt8) : ∀ (r : List ByteArray) (a b : ByteArray), r.foldl (fun a y => a ++ ⟨#[c]⟩ ++ y) (a ++ b) = a ++ r.foldl (fun a y => a ++ ⟨#[c]⟩ ++ y) b
  | [], _, _ => rfl
  | y :: r, a, b => by
    rw [List.foldl_cons, List.foldl_cons, ← joinT_fold c r a]
    simp only [ByteArray.append_assoc]
theorem joinT_cons (c : UInt8) (x y : ByteArray) (r : List ByteArray) : joinT c (x :: y :: r) = x ++ ⟨#[c]⟩ ++ joinT c (y :: r) := by
  show r.foldl _ (x ++ ⟨#[c]⟩ ++ y) = _
  rw [joinT_fold]; rfl
/-- A text without the byte c. -/
def NoC (c : UInt8) (s : ByteArray) : Prop := ∀ j, j < s.size → at8 s j ≠ (c.toNat : Int)
theorem NoC.app {c : UInt8} {a b : ByteArray} (ha : NoC c a) (hb : NoC c b) : NoC c (a ++ b) := at8_app_no ha hb
theorem NoC.one {c d : UInt8} (h : d ≠ c) : NoC c ⟨#[d]⟩ := one_no (fun e => h (by
  have : d.toNat = c.toNat := by omega
  exact UInt8.toNat_inj.1 this))
theorem NoC.join {c d : UInt8} (h : d ≠ c) : ∀ (l : List ByteArray), (∀ x ∈ l, NoC c x) → NoC c (joinT d l)
  | [], _ => fun j hj => absurd hj (Nat.not_lt_zero _)
  | [x], hl => hl x List.mem_cons_self
  | x :: y :: r, hl => by
    rw [joinT_cons]
    exact ((hl x List.mem_cons_self).app (.one h)).app (NoC.join h (y :: r) (fun z hz => hl z (List.mem_cons_of_mem _ hz)))
theorem parts_join {c : UInt8} : ∀ (l : List ByteArray), l ≠ [] → (∀ x ∈ l, NoC c x) → partsC c (joinT c l) = l
  | [], h, _ => absurd rfl h
  | [x], _, hl => parts_none (hl x List.mem_cons_self)
  | x :: y :: r, _, hl => by
    rw [joinT_cons, parts_app (hl x List.mem_cons_self), parts_join (y :: r) (by simp) (fun z hz => hl z (List.mem_cons_of_mem _ hz))]
theorem ext_cut {c : UInt8} {s : ByteArray} {i : Nat} (h : FirstC c s 0 i) (hi : i < s.size) : s.extract 0 i ++ ⟨#[c]⟩ ++ s.extract (i + 1) s.size = s := by
  have z1 : (s.extract 0 i).size = i := by rw [ByteArray.size_extract]; omega
  have z2 : (s.extract (i + 1) s.size).size = s.size - (i + 1) := by rw [ByteArray.size_extract]; omega
  have z3 : (s.extract 0 i ++ ⟨#[c]⟩ : ByteArray).size = i + 1 := by rw [ByteArray.size_append, z1, size_one]
  have z4 : (s.extract 0 i ++ ⟨#[c]⟩ ++ s.extract (i + 1) s.size : ByteArray).size = s.size := by rw [ByteArray.size_append, z3, z2]; omega
  refine ext27 z4 fun j hj => ?_
  rw [z4] at hj
  rcases Nat.lt_trichotomy j i with hl | hl | hl
  · rw [at8_left (by omega), at8_left (by omega), at8_extract s 0 i j (by omega) (by omega), Nat.zero_add]
  · subst hl
    have := at8_right (a := s.extract 0 j) (b := ⟨#[c]⟩) (j := 0) (by rw [size_one]; omega)
    rw [at8_left (by omega)]
    rw [z1, Nat.add_zero] at this
    rw [this, at8_one, h.2.2.2 hi]
  · have := at8_right (a := s.extract 0 i ++ ⟨#[c]⟩) (b := s.extract (i + 1) s.size) (j := j - (i + 1)) (by omega)
    rw [z3, show i + 1 + (j - (i + 1)) = j by omega] at this
    rw [this, at8_extract s (i + 1) s.size (j - (i + 1)) (by omega) (Nat.le_refl _), show i + 1 + (j - (i + 1)) = j by omega]
theorem partsC_ind {c : UInt8} {P : ByteArray → List ByteArray → Prop} (h0 : ∀ s, ¬ findC c s < s.size → P s [s])
    (h1 : ∀ s, findC c s < s.size → P (s.extract (findC c s + 1) s.size) (partsC c (s.extract (findC c s + 1) s.size)) → P s (s.extract 0 (findC c s) :: partsC c (s.extract (findC c s + 1) s.size))) : ∀ (n : Nat) (s : ByteArray), s.size ≤ n → P s (partsC c s)
  | n, s, hn => by
    by_cases hi : findC c s < s.size
    · rw [partsC_hit (findC_first c s) hi]
      cases n with
      | zero => omega
      | succ n => exact h1 s hi (partsC_ind h0 h1 n _ (by rw [ByteArray.size_extract]; omega))
    · rw [partsC_miss (findC_first c s) hi]
      exact h0 s hi
theorem partsC_ne (c : UInt8) (s : ByteArray) : partsC c s ≠ [] := partsC_ind (P := fun _ l => l ≠ []) (fun s _ => by simp) (fun s _ _ => by simp) s.size s (Nat.le_refl _)
theorem join_parts (c : UInt8) (s : ByteArray) : joinT c (partsC c s) = s := by
  refine partsC_ind (P := fun s l => joinT c l = s) (fun s _ => rfl) (fun s hi ih => ?_) s.size s (Nat.le_refl _)
  have hne := partsC_ne c (s.extract (findC c s + 1) s.size)
  cases hp : partsC c (s.extract (findC c s + 1) s.size) with
  | nil => exact absurd hp hne
  | cons y r =>
    rw [hp] at ih
    rw [joinT_cons, ih]
    exact ext_cut (findC_first c s) hi
theorem parts_size (c : UInt8) (s : ByteArray) : ∀ x ∈ partsC c s, x.size ≤ s.size := by
  refine partsC_ind (P := fun s l => ∀ x ∈ l, x.size ≤ s.size) (fun s hi x hx => ?_) (fun s hi ih x hx => ?_) s.size s (Nat.le_refl _)
  · rw [List.mem_singleton.1 hx]; exact Nat.le_refl _
  · rcases List.mem_cons.1 hx with rfl | hx
    · rw [ByteArray.size_extract]; omega
    · have := ih x hx
      rw [ByteArray.size_extract] at this; omega
theorem parts_len (c : UInt8) (s : ByteArray) : (partsC c s).length ≤ s.size + 1 := by
  refine partsC_ind (P := fun s l => l.length ≤ s.size + 1) (fun s hi => by simp) (fun s hi ih => ?_) s.size s (Nat.le_refl _)
  rw [List.length_cons]
  rw [ByteArray.size_extract] at ih; omega

/-! ### Numbers -/
def decI (x : Int) : ByteArray := ⟨(Lib.itoa x).toArray⟩
theorem decI_T {x : Int} (h : 0 ≤ x) : decI x = decT x.toNat := by
  unfold decI decT
  obtain ⟨n, rfl⟩ := Int.eq_ofNat_of_zero_le h
  rw [Lib.itoa_nonneg]; rfl
theorem dec_dig {x : Int} (h : 0 ≤ x) : 0 < (decI x).size ∧ ∀ j, j < (decI x).size → 48 ≤ at8 (decI x) j ∧ at8 (decI x) j ≤ 57 := by
  rw [decI_T h]
  obtain ⟨⟨h1, h2, _⟩, _⟩ := decT_ok x.toNat
  exact ⟨h1, h2⟩
theorem dec_no {x : Int} (h : 0 ≤ x) {c : UInt8} (hc : c.toNat < 48) : NoC c (decI x) := fun j hj => by
  have := (dec_dig h).2 j hj
  omega
theorem numR_dec' {x M : Int} (h0 : 0 ≤ x) (h1 : x ≤ M) : numR (decI x) M = (x, 0) := by
  rw [decI_T h0]
  obtain ⟨h2, _, h3⟩ := decT_ok x.toNat
  unfold numR
  rw [if_pos h2, if_neg (by omega), h3, if_pos (by omega), Int.toNat_of_nonneg h0]
theorem num_canon : ∀ (n : Nat) (s : ByteArray), s.size = n → NumOK s → decT (nvF s s.size).toNat = s
  | 0, s, hn, h => absurd h.1 (by omega)
  | n + 1, s, hn, h => by
    obtain ⟨h0, hd, hz⟩ := h
    have hdn := hd n (by omega)
    have bl : UInt8.ofNat (48 + (at8 s n - 48).toNat) = s[n]'(by omega) := by
      rw [at8_lt s n (by omega)]
      rw [at8_lt s n (by omega)] at hdn
      rw [show 48 + ((s[n]'(by omega)).toNat - 48 : Int).toNat = (s[n]'(by omega)).toNat by omega]
      exact UInt8.ofNat_toNat
    have el : at8 (⟨#[s[n]'(by omega)]⟩ : ByteArray) 0 = at8 s n := by rw [at8_one, at8_lt s n (by omega)]
    have es : s.extract 0 n ++ ⟨#[s[n]'(by omega)]⟩ = s := by
      have z1 : (s.extract 0 n).size = n := by rw [ByteArray.size_extract]; omega
      have z2 : (s.extract 0 n ++ ⟨#[s[n]'(by omega)]⟩ : ByteArray).size = s.size := by rw [ByteArray.size_append, z1, size_one]; omega
      refine ext27 z2 fun j hj => ?_
      rw [z2] at hj
      rcases Nat.lt_or_ge j n with hl | hl
      · rw [at8_left (by omega), at8_extract s 0 n j (by omega) (by omega), Nat.zero_add]
      · obtain rfl : j = n := by omega
        have := at8_right (a := s.extract 0 j) (b := ⟨#[s[j]'(by omega)]⟩) (j := 0) (by rw [size_one]; omega)
        rw [z1, Nat.add_zero] at this
        rw [this, el]
    have hv : nvF s s.size = 10 * nvF s n + (at8 s n - 48) := by rw [hn]; rfl
    rw [hv]
    cases n with
    | zero =>
      have e0 : nvF s 0 = 0 := rfl
      rw [e0, show (10 * 0 + (at8 s 0 - 48) : Int) = at8 s 0 - 48 by omega, decT_small (by omega), bl]
      have : s.extract 0 0 = (⟨#[]⟩ : ByteArray) := by
        apply ByteArray.ext
        simp
      rw [this] at es
      have e2 : (⟨#[]⟩ : ByteArray) ++ ⟨#[s[0]'(by omega)]⟩ = ⟨#[s[0]'(by omega)]⟩ := by
        apply ByteArray.ext
        rw [ByteArray.data_append]
        simp
      exact e2.symm.trans es
    | succ n =>
      have h1 : at8 s 0 ≠ 48 := hz (by omega)
      have h1d := hd 0 (by omega)
      have hm := nvF_mono hd 1 n (by omega)
      have e1 : nvF s 1 = 10 * 0 + (at8 s 0 - 48) := rfl
      rw [e1, show 1 + n = n + 1 by omega] at hm
      have z1 : (s.extract 0 (n + 1)).size = n + 1 := by rw [ByteArray.size_extract]; omega
      have ea : ∀ j, j < n + 1 → at8 (s.extract 0 (n + 1)) j = at8 s j := fun j hj => by
        rw [at8_extract s 0 (n + 1) j (by omega) (by omega), Nat.zero_add]
      have hok : NumOK (s.extract 0 (n + 1)) := ⟨by omega, fun i hi => by rw [ea i (by omega)]; exact hd i (by omega), fun _ => by rw [ea 0 (by omega)]; exact h1⟩
      have ih := num_canon (n + 1) (s.extract 0 (n + 1)) z1 hok
      have en : nvF (s.extract 0 (n + 1)) (s.extract 0 (n + 1)).size = nvF s (n + 1) := by
        have := nvF_left (a := s.extract 0 (n + 1)) (b := ⟨#[s[n + 1]'(by omega)]⟩) (n + 1) (by omega)
        rw [es] at this
        rw [z1, ← this]
      rw [en] at ih
      rw [decT_big (by omega), show (10 * nvF s (n + 1) + (at8 s (n + 1) - 48)).toNat / 10 = (nvF s (n + 1)).toNat by omega, ih,
        show (10 * nvF s (n + 1) + (at8 s (n + 1) - 48)).toNat % 10 = (at8 s (n + 1) - 48).toNat by omega, bl]
      exact es
theorem numR_ok {s : ByteArray} {m : Int} (h : (numR s m).2 = 0) : NumOK s ∧ 0 ≤ (numR s m).1 ∧ (numR s m).1 ≤ m ∧ decI (numR s m).1 = s := by
  unfold numR at h ⊢
  split at h
  · rename_i hok
    split at h
    · cases h
    · rename_i hm
      split at h
      · rename_i hle
        have hn := nvF_nonneg hok.2.1 s.size (Nat.le_refl _)
        rw [if_pos hok, if_neg hm, if_pos hle]
        exact ⟨hok, hn, hle, by rw [decI_T hn]; exact num_canon _ s rfl hok⟩
      · cases h
  · cases h

/-! ### The text of a table -/
def ivT (x : Iv) : ByteArray := if x.a < x.b then decI x.a ++ ⟨#[45]⟩ ++ decI x.b else decI x.a
def rngT (l : List Iv) : ByteArray := joinT 44 (l.map ivT)
def ynT (c : Bool) : ByteArray := if c = true then ⟨#[110]⟩ else ⟨#[121]⟩
def wdT (s : ByteArray) (v : Gv) : List ByteArray := match v.l with
  | [] => [s, decI v.h, ynT v.c]
  | _ :: _ => [s, decI v.h, ynT v.c, rngT v.l]
def lnT (p : ByteArray × Gv) : ByteArray := joinT 32 (wdT p.1 p.2) ++ ⟨#[10]⟩
def prT (A : TA) : ByteArray := A.foldl (fun t p => t ++ lnT p) ⟨#[]⟩
theorem prT_fold : ∀ (A : TA) (t : ByteArray), A.foldl (fun t p => t ++ lnT p) t = t ++ prT A
  | [], t => by show t = t ++ ByteArray.empty; simp
  | p :: A, t => by
    show A.foldl _ (t ++ lnT p) = t ++ A.foldl _ (ByteArray.empty ++ lnT p)
    rw [prT_fold A, prT_fold A]
    simp [ByteArray.append_assoc]
theorem prT_cons (p : ByteArray × Gv) (A : TA) : prT (p :: A) = lnT p ++ prT A := by
  show A.foldl _ (ByteArray.empty ++ lnT p) = _
  rw [prT_fold]; simp
theorem prT_snoc (A : TA) (p : ByteArray × Gv) : prT (A ++ [p]) = prT A ++ lnT p := by
  unfold prT
  rw [List.foldl_append]; rfl

/-! ### The reading of a text -/
def ivP (s : ByteArray) (hi : Int) : Option Iv :=
  if findC 45 s < s.size then
    if (numR (s.extract 0 (findC 45 s)) hi).2 = 0 ∧ (numR (s.extract (findC 45 s + 1) s.size) hi).2 = 0 ∧ (numR (s.extract 0 (findC 45 s)) hi).1 < (numR (s.extract (findC 45 s + 1) s.size) hi).1
    then some ⟨(numR (s.extract 0 (findC 45 s)) hi).1, (numR (s.extract (findC 45 s + 1) s.size) hi).1⟩ else none
  else if (numR s hi).2 = 0 then some ⟨(numR s hi).1, (numR s hi).1⟩ else none
def ivL (hi : Int) : List ByteArray → Int → Option (List Iv)
  | [], _ => some []
  | p :: r, n => match ivP p hi with
    | some x => if n ≤ x.a then (ivL hi r (x.b + 2)).map (x :: ·) else none
    | none => none
def lineW (a b c : ByteArray) (d : Option ByteArray) (bf : ByteArray) : (ByteArray × Gv) ⊕ Int :=
  if gnE a ≠ 0 then .inr (gnE a) else if bf.size ≠ 0 ∧ 0 ≤ gnC bf a then .inr 30 else if (numR b 2147483646).2 ≠ 0 then .inr 2 else if c ≠ ⟨#[121]⟩ ∧ c ≠ ⟨#[110]⟩ then .inr 3 else
  match d with
  | none => .inl (a, ⟨(numR b 2147483646).1, decide (c = ⟨#[110]⟩), []⟩)
  | some d => match ivL (numR b 2147483646).1 (partsC 44 d) 1 with
    | some l => .inl (a, ⟨(numR b 2147483646).1, decide (c = ⟨#[110]⟩), l⟩)
    | none => .inr 3
def lineA (s bf : ByteArray) : (ByteArray × Gv) ⊕ Int :=
  match partsC 32 s with
  | [a, b, c] => if a.size = 0 ∨ b.size = 0 ∨ c.size = 0 then .inr 3 else lineW a b c none bf
  | [a, b, c, d] => if a.size = 0 ∨ b.size = 0 ∨ c.size = 0 ∨ d.size = 0 then .inr 3 else lineW a b c (some d) bf
  | _ => .inr 3
def parseA : Nat → ByteArray → Nat → ByteArray → TA → TA ⊕ (Nat × Int)
  | 0, _, n, _, _ => .inr (n, 4)
  | f + 1, s, n, bf, acc => if s.size = 0 then .inl acc else if ¬ findC 10 s < s.size then .inr (n, 4) else
    match lineA (s.extract 0 (findC 10 s)) bf with
    | .inr e => .inr (n, e)
    | .inl g => if 4096 < n then .inr (n, 9) else parseA f (s.extract (findC 10 s + 1) s.size) (n + 1) g.1 (acc ++ [g])
def parseT (s : ByteArray) : TA ⊕ (Nat × Int) := parseA (s.size + 1) s 1 ⟨#[]⟩ []

/-! ### A name has no blank -/
theorem compC_no {c : Int} (h : compC c = true) : c ≠ 32 ∧ c ≠ 10 := by
  unfold compC lowC at h
  simp only [Bool.or_eq_true, Bool.and_eq_true, decide_eq_true_eq, beq_iff_eq] at h
  omega
theorem compB_at {s : ByteArray} (h : compB s = true) : 0 < s.size ∧ ∀ j, j < s.size → compC (at8 s j) = true := by
  unfold compB at h
  simp only [Bool.and_eq_true, decide_eq_true_eq, List.all_eq_true, List.mem_range] at h
  exact ⟨h.1.1.1, h.2⟩
theorem name_no {s : ByteArray} (h : gnE s = 0) : 0 < s.size ∧ NoC 32 s ∧ NoC 10 s := by
  unfold gnE at h
  split at h
  · cases h
  split at h
  · cases h
  rename_i h1
  have hall : ∀ x ∈ partsC 46 s, compB x = true := fun x hx => by
    have : ¬ (partsD s).any (fun x => !compB x) = true := h1
    rw [List.any_eq_true] at this
    by_cases hc : compB x = true
    · exact hc
    · exact absurd ⟨x, hx, by simpa using hc⟩ this
  have hj := join_parts 46 s
  have hn : ∀ c : UInt8, (∀ x : Int, compC x = true → x ≠ (c.toNat : Int)) → (46 : UInt8) ≠ c → NoC c s := fun c hc h46 => by
    have := NoC.join h46 (partsC 46 s) (fun x hx j hj => hc _ ((compB_at (hall x hx)).2 j hj))
    rwa [hj] at this
  refine ⟨?_, hn 32 (fun x hx => (compC_no hx).1) (by decide), hn 10 (fun x hx => (compC_no hx).2) (by decide)⟩
  rcases Nat.eq_zero_or_pos s.size with h0 | h0
  · exfalso
    have hm : partsC 46 s = [s] := partsC_miss (findC_first 46 s) (by omega)
    have := (compB_at (hall s (by rw [hm]; exact List.mem_singleton.2 rfl))).1
    omega
  · exact h0

/-! ### What is printed reads as it -/
theorem ivT_no {x : Iv} (h : 0 ≤ x.a ∧ x.a ≤ x.b) {c : UInt8} (hc : c.toNat < 48) (h45 : (45 : UInt8) ≠ c) : NoC c (ivT x) := by
  unfold ivT
  split
  · exact ((dec_no h.1 hc).app (.one h45)).app (dec_no (by omega) hc)
  · exact dec_no h.1 hc
theorem ivP_T {x : Iv} {hi : Int} (h0 : 0 ≤ x.a) (h1 : x.a ≤ x.b) (h2 : x.b ≤ hi) : ivP (ivT x) hi = some x := by
  unfold ivT ivP
  split
  · rename_i hlt
    have hn := dec_no h0 (c := 45) (by decide)
    have hf := first_app (c := 45) (a := decI x.a) (rest := decI x.b) hn
    have e := hf.uniq (findC_first 45 (decI x.a ++ ⟨#[45]⟩ ++ decI x.b))
    rw [← e, app_head, app_tail, if_pos (by rw [app_size]; omega), numR_dec' h0 (by omega), numR_dec' (by omega) h2, if_pos ⟨rfl, rfl, hlt⟩]
  · rename_i hlt
    have hn := dec_no h0 (c := 45) (by decide)
    have e : findC 45 (decI x.a) = (decI x.a).size := by
      have hf := findC_first 45 (decI x.a)
      rcases Nat.lt_or_ge (findC 45 (decI x.a)) (decI x.a).size with hl | hl
      · exact absurd (hf.2.2.2 hl) (hn _ hl)
      · have := hf.2.1; omega
    rw [e, if_neg (by omega), numR_dec' h0 (by omega), if_pos rfl]
    obtain ⟨a, b⟩ := x
    have : a = b := by simp only at h1 hlt; omega
    subst this; rfl
theorem ivL_T {hi : Int} : ∀ {l : List Iv} {n : Int}, 0 ≤ n → IvS hi n l → ivL hi (l.map ivT) n = some l
  | [], n, _, _ => rfl
  | x :: l, n, hn, h => by
    obtain ⟨h1, h2, h3, h4⟩ := h
    show (match ivP (ivT x) hi with | some y => if n ≤ y.a then (ivL hi (l.map ivT) (y.b + 2)).map (y :: ·) else none | none => none) = _
    rw [ivP_T (by omega) h2 h3]
    simp only
    rw [if_pos h1, ivL_T (by omega) h4]; rfl
theorem rngT_no {hi n : Int} {l : List Iv} (hn : 0 ≤ n) (h : IvS hi n l) {c : UInt8} (hc : c.toNat < 44) : NoC c (rngT l) := by
  have h44 : (44 : UInt8) ≠ c := fun e => by rw [← e] at hc; exact absurd hc (by decide)
  have h45 : (45 : UInt8) ≠ c := fun e => by rw [← e] at hc; exact absurd hc (by decide)
  refine NoC.join h44 _ (fun y hy => ?_)
  obtain ⟨x, hx, rfl⟩ := List.mem_map.1 hy
  obtain ⟨g1, g2, _⟩ := h.mem x hx
  exact ivT_no ⟨by omega, g2⟩ (by omega) h45
theorem rngT_parts {hi n : Int} {l : List Iv} (hn : 0 ≤ n) (h : IvS hi n l) (hl : l ≠ []) : partsC 44 (rngT l) = l.map ivT := by
  refine parts_join _ (by simpa using hl) (fun y hy => ?_)
  obtain ⟨x, hx, rfl⟩ := List.mem_map.1 hy
  obtain ⟨g1, g2, _⟩ := h.mem x hx
  exact ivT_no ⟨by omega, g2⟩ (by decide) (by decide)
theorem ynT_no (c : Bool) {d : UInt8} (hd : d.toNat < 48) : NoC d (ynT c) ∧ 0 < (ynT c).size := by
  unfold ynT
  split
  · exact ⟨.one (fun e => by rw [← e] at hd; exact absurd hd (by decide)), by rw [size_one]; omega⟩
  · exact ⟨.one (fun e => by rw [← e] at hd; exact absurd hd (by decide)), by rw [size_one]; omega⟩
theorem ivT_pos {x : Iv} (h : 0 ≤ x.a) : 0 < (ivT x).size := by
  unfold ivT
  have := (dec_dig h).1
  split
  · simp only [ByteArray.size_append, size_one]; omega
  · exact this
theorem joinT_pos {c : UInt8} {x : ByteArray} {r : List ByteArray} (h : 0 < x.size) : 0 < (joinT c (x :: r)).size := by
  cases r with
  | nil => exact h
  | cons y r => rw [joinT_cons, ByteArray.size_append, ByteArray.size_append]; omega
theorem ynT_dec (c : Bool) : decide (ynT c = ⟨#[110]⟩) = c := by
  cases c
  · show decide ((⟨#[121]⟩ : ByteArray) = ⟨#[110]⟩) = false
    decide
  · show decide ((⟨#[110]⟩ : ByteArray) = ⟨#[110]⟩) = true
    decide
theorem ynT_or (c : Bool) : ¬ (ynT c ≠ ⟨#[121]⟩ ∧ ynT c ≠ ⟨#[110]⟩) := by
  intro ⟨h1, h2⟩
  cases c
  · exact h1 rfl
  · exact h2 rfl
/-- A line of a table. -/
structure LnOK (s : ByteArray) (v : Gv) : Prop where
  nm : gnE s = 0
  h0 : 0 ≤ v.h
  hi : v.h ≤ 2147483646
  iv : IvS v.h 1 v.l
theorem wd_no {s : ByteArray} {v : Gv} (h : LnOK s v) {c : UInt8} (hc : c = 32 ∨ c = 10) : ∀ x ∈ wdT s v, NoC c x ∧ 0 < x.size := by
  have hc4 : c.toNat < 44 := by rcases hc with rfl | rfl <;> decide
  obtain ⟨n1, n2, n3⟩ := name_no h.nm
  have hn : NoC c s := by rcases hc with rfl | rfl; exact n2; exact n3
  unfold wdT
  cases hl : v.l with
  | nil =>
    intro x hx
    simp only [List.mem_cons, List.not_mem_nil, or_false] at hx
    rcases hx with rfl | rfl | rfl
    · exact ⟨hn, n1⟩
    · exact ⟨dec_no h.h0 (by omega), (dec_dig h.h0).1⟩
    · exact ynT_no _ (by omega)
  | cons y r =>
    intro x hx
    have hv := h.iv
    rw [hl] at hv
    simp only [List.mem_cons, List.not_mem_nil, or_false] at hx
    rcases hx with rfl | rfl | rfl | rfl
    · exact ⟨hn, n1⟩
    · exact ⟨dec_no h.h0 (by omega), (dec_dig h.h0).1⟩
    · exact ynT_no _ (by omega)
    · exact ⟨rngT_no (by omega) hv hc4, joinT_pos (ivT_pos (by have := hv.1; omega))⟩
theorem line_T {s : ByteArray} {v : Gv} (h : LnOK s v) (bf : ByteArray) (hb : bf.size ≠ 0 → gnC bf s < 0) : lineA (joinT 32 (wdT s v)) bf = .inl (s, v) := by
  have hp : partsC 32 (joinT 32 (wdT s v)) = wdT s v := parts_join _ (by unfold wdT; split <;> simp) (fun x hx => (wd_no h (.inl rfl) x hx).1)
  have hw := fun x hx => (wd_no h (c := 32) (.inl rfl) x hx).2
  have hbn : ¬ (bf.size ≠ 0 ∧ 0 ≤ gnC bf s) := fun ⟨h1, h2⟩ => by have := hb h1; omega
  unfold lineA
  rw [hp]
  obtain ⟨vh, vc, vl⟩ := v
  cases vl with
  | nil =>
    have e : wdT s ⟨vh, vc, []⟩ = [s, decI vh, ynT vc] := rfl
    rw [e] at hw ⊢
    simp only [List.mem_cons, List.not_mem_nil, or_false, forall_eq_or_imp, forall_eq] at hw
    obtain ⟨w1, w2, w3⟩ := hw
    simp only
    rw [if_neg (by omega)]
    unfold lineW
    rw [if_neg (by rw [h.nm]; simp), if_neg hbn, numR_dec' h.h0 h.hi, if_neg (by simp), if_neg (ynT_or vc), ynT_dec]
  | cons y r =>
    have e : wdT s ⟨vh, vc, y :: r⟩ = [s, decI vh, ynT vc, rngT (y :: r)] := rfl
    rw [e] at hw ⊢
    simp only [List.mem_cons, List.not_mem_nil, or_false, forall_eq_or_imp, forall_eq] at hw
    obtain ⟨w1, w2, w3, w4⟩ := hw
    have hv : IvS vh 1 (y :: r) := h.iv
    simp only
    rw [if_neg (by omega)]
    unfold lineW
    rw [if_neg (by rw [h.nm]; simp), if_neg hbn, numR_dec' h.h0 h.hi, if_neg (by simp), if_neg (ynT_or vc)]
    simp only
    rw [rngT_parts (by omega) hv (by simp), ivL_T (by omega) hv]
    simp only
    rw [ynT_dec]
theorem WF.ln {A : TA} (h : WF A) {p : ByteArray × Gv} (hp : p ∈ A) : LnOK p.1 p.2 := ⟨h.nm p hp, (h.hi p hp).1, (h.hi p hp).2, h.iv p hp⟩
theorem parse_pr : ∀ (R acc : TA) (f : Nat) (bf : ByteArray), R.length < f → acc.length + R.length ≤ 4096 → (∀ p ∈ R, LnOK p.1 p.2) → KSort gnC R → (bf.size ≠ 0 → ∀ p ∈ R, gnC bf p.1 < 0) →
    parseA f (prT R) (acc.length + 1) bf acc = .inl (acc ++ R)
  | [], acc, f + 1, bf, _, _, _, _, _ => by
    show (if (prT []).size = 0 then Sum.inl acc else _) = _
    rw [if_pos (show (prT []).size = 0 from rfl), List.append_nil]
  | p :: R, acc, f + 1, bf, hf, hl, hln, hs, hb => by
    have hp := hln p List.mem_cons_self
    have hno : NoC 10 (joinT 32 (wdT p.1 p.2)) := NoC.join (by decide) _ (fun x hx => (wd_no hp (.inr rfl) x hx).1)
    have e0 : prT (p :: R) = joinT 32 (wdT p.1 p.2) ++ ⟨#[10]⟩ ++ prT R := by rw [prT_cons]; rfl
    have hff := first_app (c := 10) (a := joinT 32 (wdT p.1 p.2)) (rest := prT R) hno
    have ef := hff.uniq (findC_first 10 _)
    obtain ⟨s1, s2⟩ := List.pairwise_cons.1 hs
    show (if (prT (p :: R)).size = 0 then Sum.inl acc else if ¬ findC 10 (prT (p :: R)) < (prT (p :: R)).size then Sum.inr (acc.length + 1, (4 : Int)) else
      match lineA ((prT (p :: R)).extract 0 (findC 10 (prT (p :: R)))) bf with
      | .inr e => Sum.inr (acc.length + 1, e)
      | .inl g => if 4096 < acc.length + 1 then Sum.inr (acc.length + 1, 9) else parseA f ((prT (p :: R)).extract (findC 10 (prT (p :: R)) + 1) (prT (p :: R)).size) (acc.length + 1 + 1) g.1 (acc ++ [g])) = _
    rw [e0, ← ef, app_head, app_tail, if_neg (by rw [app_size]; omega), if_neg (by rw [app_size]; omega), line_T hp bf (fun h => hb h p List.mem_cons_self)]
    simp only
    rw [List.length_cons] at hf hl
    rw [if_neg (by omega)]
    have el : acc.length + 1 + 1 = (acc ++ [(p.1, p.2)]).length + 1 := by simp
    rw [el, parse_pr R (acc ++ [(p.1, p.2)]) f p.1 (by omega) (by simp; omega) (fun q hq => hln q (List.mem_cons_of_mem _ hq)) s2 (fun _ q hq => s1 q hq)]
    simp
theorem lnT_pos (p : ByteArray × Gv) : 0 < (lnT p).size := by unfold lnT; rw [ByteArray.size_append, size_one]; omega
theorem prT_len : ∀ (A : TA), A.length ≤ (prT A).size
  | [] => Nat.zero_le _
  | p :: A => by
    rw [prT_cons, ByteArray.size_append, List.length_cons]
    have := lnT_pos p
    have := prT_len A
    omega
/-- What is printed reads as the table. -/
theorem parse_print {A : TA} (h : WF A) (hl : A.length ≤ 4096) : parseT (prT A) = .inl A := by
  have := parse_pr A [] ((prT A).size + 1) ⟨#[]⟩ (by have := prT_len A; omega) (by simpa using hl) (fun p hp => h.ln hp) h.sort (fun h => absurd rfl h)
  simpa [parseT] using this

/-! ### What is read is printed again -/
theorem ivP_ok {s : ByteArray} {hi : Int} {x : Iv} (h : ivP s hi = some x) : 0 ≤ x.a ∧ x.a ≤ x.b ∧ x.b ≤ hi ∧ ivT x = s := by
  unfold ivP at h
  split at h
  · rename_i hk
    split at h
    · rename_i hh
      obtain ⟨h1, h2, h3⟩ := hh
      obtain ⟨_, a1, a2, a3⟩ := numR_ok h1
      obtain ⟨_, b1, b2, b3⟩ := numR_ok h2
      cases h
      refine ⟨a1, by show (numR _ hi).1 ≤ (numR _ hi).1; omega, b2, ?_⟩
      unfold ivT
      rw [if_pos h3]
      show decI (numR _ hi).1 ++ ⟨#[45]⟩ ++ decI (numR _ hi).1 = s
      rw [a3, b3]
      exact ext_cut (findC_first 45 s) hk
    · cases h
  · split at h
    · rename_i h1
      obtain ⟨_, a1, a2, a3⟩ := numR_ok h1
      cases h
      refine ⟨a1, Int.le_refl _, a2, ?_⟩
      unfold ivT
      rw [if_neg (by show ¬ (numR s hi).1 < (numR s hi).1; omega)]
      exact a3
    · cases h
theorem ivL_ok {hi : Int} : ∀ {l : List ByteArray} {n : Int} {m : List Iv}, ivL hi l n = some m → IvS hi n m ∧ m.map ivT = l
  | [], n, m, h => by
    cases h
    exact ⟨trivial, rfl⟩
  | p :: r, n, m, h => by
    have h : (match ivP p hi with | some x => if n ≤ x.a then (ivL hi r (x.b + 2)).map (x :: ·) else none | none => none) = some m := h
    cases hp : ivP p hi with
    | none => rw [hp] at h; cases h
    | some x =>
      rw [hp] at h
      simp only at h
      split at h
      · rename_i hn
        cases hr : ivL hi r (x.b + 2) with
        | none => rw [hr] at h; cases h
        | some t =>
          rw [hr] at h
          cases h
          obtain ⟨g1, g2⟩ := ivL_ok hr
          obtain ⟨p1, p2, p3, p4⟩ := ivP_ok hp
          exact ⟨⟨hn, p2, p3, g1⟩, by rw [List.map_cons, p4, g2]⟩
      · cases h
theorem ynT_of {c : ByteArray} (h : ¬ (c ≠ ⟨#[121]⟩ ∧ c ≠ ⟨#[110]⟩)) : ynT (decide (c = ⟨#[110]⟩)) = c := by
  unfold ynT
  by_cases hc : c = ⟨#[110]⟩
  · rw [if_pos (by simpa using hc), hc]
  · rw [if_neg (by simpa using hc)]
    exact (Classical.byContradiction fun h2 => h ⟨fun e => h2 e.symm, hc⟩)
theorem lineW_ok {a b c bf : ByteArray} {d : Option ByteArray} {g : ByteArray × Gv} (h : lineW a b c d bf = .inl g) : LnOK g.1 g.2 ∧ g.1 = a ∧ (bf.size ≠ 0 → gnC bf a < 0) ∧ wdT g.1 g.2 = [a, b, c] ++ d.toList := by
  unfold lineW at h
  split at h
  · cases h
  rename_i h1
  have h1 : gnE a = 0 := by simpa using h1
  split at h
  · cases h
  rename_i h2
  split at h
  · cases h
  rename_i h3
  have h3 : (numR b 2147483646).2 = 0 := by simpa using h3
  obtain ⟨_, n1, n2, n3⟩ := numR_ok h3
  split at h
  · cases h
  rename_i h4
  have h4 := ynT_of h4
  have hb : bf.size ≠ 0 → gnC bf a < 0 := fun hs => by
    rcases Int.lt_or_le (gnC bf a) 0 with hl | hl
    · exact hl
    · exact absurd ⟨hs, hl⟩ h2
  cases d with
  | none =>
    cases h
    refine ⟨⟨h1, n1, n2, trivial⟩, rfl, hb, ?_⟩
    show [a, decI (numR b 2147483646).1, ynT (decide (c = ⟨#[110]⟩))] = _
    rw [n3, h4]; rfl
  | some d =>
    simp only at h
    cases hl : ivL (numR b 2147483646).1 (partsC 44 d) 1 with
    | none => rw [hl] at h; cases h
    | some l =>
      rw [hl] at h
      cases h
      obtain ⟨g1, g2⟩ := ivL_ok hl
      refine ⟨⟨h1, n1, n2, g1⟩, rfl, hb, ?_⟩
      cases l with
      | nil => exact absurd g2.symm (by simpa using partsC_ne 44 d)
      | cons x r =>
        show [a, decI (numR b 2147483646).1, ynT (decide (c = ⟨#[110]⟩)), rngT (x :: r)] = _
        have : rngT (x :: r) = d := by unfold rngT; rw [g2, join_parts]
        rw [n3, h4, this]; rfl
theorem lineA_ok {s bf : ByteArray} {g : ByteArray × Gv} (h : lineA s bf = .inl g) : LnOK g.1 g.2 ∧ (bf.size ≠ 0 → gnC bf g.1 < 0) ∧ joinT 32 (wdT g.1 g.2) = s := by
  unfold lineA at h
  have hj := join_parts 32 s
  split at h
  · rename_i a b c hp
    split at h
    · cases h
    · obtain ⟨h1, h2, h3, h4⟩ := lineW_ok h
      rw [hp] at hj
      exact ⟨h1, by rw [h2]; exact h3, by rw [h4]; exact hj⟩
  · rename_i a b c d hp
    split at h
    · cases h
    · obtain ⟨h1, h2, h3, h4⟩ := lineW_ok h
      rw [hp] at hj
      exact ⟨h1, by rw [h2]; exact h3, by rw [h4]; exact hj⟩
  · cases h
theorem ksort_snoc {A : TA} {g : ByteArray × Gv} (h : KSort gnC A) (hb : ∀ p, A.getLast? = some p → gnC p.1 g.1 < 0) : KSort gnC (A ++ [g]) := by
  refine List.pairwise_append.2 ⟨h, List.pairwise_singleton _ _, fun p hp q hq => ?_⟩
  rw [List.mem_singleton.1 hq]
  rcases List.eq_nil_or_concat A with e | ⟨t, z, e⟩
  · rw [e] at hp; cases hp
  · have e : A = t ++ [z] := by rw [e]; simp
    have hz := hb z (by rw [e]; simp)
    rw [e] at hp h
    rcases List.mem_append.1 hp with hp | hp
    · exact gnC_ord.tlt _ _ _ ((List.pairwise_append.1 h).2.2 p hp z (List.mem_singleton.2 rfl)) hz
    · rw [List.mem_singleton.1 hp]; exact hz
theorem parseA_ok : ∀ (f : Nat) (s : ByteArray) (bf : ByteArray) (acc A : TA), parseA f s (acc.length + 1) bf acc = .inl A → WF acc → acc.length ≤ 4096 → (∀ p, acc.getLast? = some p → bf = p.1) →
    WF A ∧ A.length ≤ 4096 ∧ prT A = prT acc ++ s
  | 0, s, bf, acc, A, h, _, _, _ => by cases h
  | f + 1, s, bf, acc, A, h, hw, hl, hb => by
    unfold parseA at h
    split at h
    · rename_i h0
      cases h
      refine ⟨hw, hl, ?_⟩
      have : s = ByteArray.empty := by
        apply ByteArray.ext
        exact Array.eq_empty_of_size_eq_zero h0
      rw [this]; simp
    split at h
    · cases h
    rename_i hk
    have hk : findC 10 s < s.size := Classical.byContradiction hk
    split at h
    · cases h
    rename_i g hg
    split at h
    · cases h
    rename_i hn
    obtain ⟨g1, g2, g3⟩ := lineA_ok hg
    have hws : KSort gnC (acc ++ [g]) := ksort_snoc hw.sort (fun p hp => by
      rw [← hb p hp]
      refine g2 (fun e => ?_)
      have hm := List.mem_of_getLast? hp
      have := (name_no (hw.nm p hm)).1
      rw [hb p hp] at e
      omega)
    have hm : ∀ {p}, p ∈ acc ++ [g] → p ∈ acc ∨ p = g := fun hp => by
      rcases List.mem_append.1 hp with h | h
      · exact .inl h
      · exact .inr (List.mem_singleton.1 h)
    have hw2 : WF (acc ++ [g]) := ⟨hws, fun p hp => by rcases hm hp with h | rfl; exact hw.nm p h; exact g1.nm, fun p hp => by rcases hm hp with h | rfl; exact hw.hi p h; exact ⟨g1.h0, g1.hi⟩, fun p hp => by rcases hm hp with h | rfl; exact hw.iv p h; exact g1.iv⟩
    have e1 : acc.length + 1 + 1 = (acc ++ [g]).length + 1 := by simp
    rw [e1] at h
    obtain ⟨r1, r2, r3⟩ := parseA_ok f _ _ _ _ h hw2 (by simp; omega) (fun p hp => by simp at hp; rw [hp])
    refine ⟨r1, r2, ?_⟩
    rw [r3, prT_snoc]
    unfold lnT
    rw [g3, ByteArray.append_assoc, ext_cut (findC_first 10 s) hk]
theorem parse_ok {s : ByteArray} {A : TA} (h : parseT s = .inl A) : WF A ∧ A.length ≤ 4096 ∧ prT A = s := by
  obtain ⟨h1, h2, h3⟩ := parseA_ok (s.size + 1) s ⟨#[]⟩ [] A h WF.nil (Nat.zero_le _) (fun p hp => by cases hp)
  refine ⟨h1, h2, ?_⟩
  rw [h3]
  show ByteArray.empty ++ s = s
  simp

end Go.Proofs.YtgmmoghagpmpfaaGreatDoor

/- The contracts of (*strings.Builder).copyCheck, WriteString (written since it was made, never read) and String. Texts of at most 2^47 bytes. -/
namespace Go.Proofs.YtgmmoghagpmpfaaGreatDoor
open Go.RowKit

set_option maxHeartbeats 1000000 in
set_option maxRecDepth 100000 in
theorem bcheck_used (b : Nat) (w : World) (h0 : w.cell? ⟨b, 0, none⟩ = some (.pointer (some ⟨b, 0, none⟩))) :
    Calls Tryz.prog 77 #[.pointer (some ⟨b, 0, none⟩)] w fun e w' => e = .returned (.tuple #[]) ∧ w' = w := by
  have hX : (Tryz.prog.info? 109).map (·.size) = some 2 := by kernel_rfl
  obtain ⟨j, hj, _⟩ := Option.map_eq_some_iff.1 hX
  go_enter Tryz.func77, Tryz.ntmps77
  go_wp2
  rw [Lib.run_neq_ptr_same w _ Tryz.underlying106 hj]
  go_wp2
  go_end0
  exact ⟨rfl, rfl⟩
set_option maxHeartbeats 1000000 in
set_option maxRecDepth 100000 in
theorem bcheck_fresh (b : Nat) (w : World) (h0 : w.cell? ⟨b, 0, none⟩ = some (.pointer none)) (hsh : w.shape? b = some (109, 2)) (hfz : w.frozen? ⟨b, 0, none⟩ = false) :
    Calls Tryz.prog 77 #[.pointer (some ⟨b, 0, none⟩)] w fun e w' => e = .returned (.tuple #[]) ∧ w' = w.setCell ⟨b, 0, none⟩ (.pointer (some ⟨b, 0, none⟩)) := by
  have hX : (Tryz.prog.info? 109).map (·.size) = some 2 := by kernel_rfl
  have hY : liesAt Tryz.prog Tryz.prog.depth 109 (2 / Tryz.prog.cellsOf 109) 0 109 1 = true := by kernel_rfl
  obtain ⟨j, hj, hjs⟩ := Option.map_eq_some_iff.1 hX
  go_enter Tryz.func77, Tryz.ntmps77
  go_wp2
  rw [Lib.run_to_unsafe w ⟨b, 0, none⟩ Tryz.underlying106 Tryz.underlying156 hj (by rw [hjs]; decide) hsh (Nat.zero_lt_succ 1)]
  simp only [Result.andThen]
  rw [Oper.upon_value]
  go_wp2
  rw [run_callFunc_extern Tryz.func96 (by kernel_rfl) (by kernel_rfl) (by kernel_rfl) (e := Extern.AbiNoEscape.same) (by kernel_rfl)]
  rw [Lib.run_noEscape]
  simp only [Result.andThen]
  rw [Oper.upon_value]
  go_wp2
  rw [Lib.run_from_unsafe w ⟨b, 0, none⟩ Tryz.underlying156 Tryz.underlying106 hj hsh hY]
  simp only [Result.andThen]
  rw [Oper.upon_value]
  go_wp2
  go_end0
  exact ⟨rfl, rfl⟩
theorem bcheck_any (B b : Nat) (bs : List Value) (w : World) (h : Lib.IsBuilder 109 5 B b bs w) :
    Calls Tryz.prog 77 #[.pointer (some ⟨b, 0, none⟩)] w fun e w' => e = .returned (.tuple #[]) ∧ Lib.BuilderAt 109 5 B b (.pointer (some ⟨b, 0, none⟩)) bs w' ∧ Below B w w' ∧ Lib.OthersKept 5 (some b) w w' := by
  rcases h with h | h
  · refine (bcheck_fresh b w h.cell0 h.shape h.frozen0).mono ?_
    rintro e w' ⟨rfl, rfl⟩
    exact ⟨rfl, h.used _, (Below.refl B w).setCell (p := ⟨b, 0, none⟩) h.1 _, (Lib.OthersKept.refl _ _ w).setCell ⟨b, 0, none⟩ rfl _⟩
  · refine (bcheck_used b w h.cell0).mono ?_
    rintro e w' ⟨rfl, rfl⟩
    exact ⟨rfl, h, Below.refl B _, Lib.OthersKept.refl _ _ _⟩

set_option maxHeartbeats 1000000 in
set_option maxRecDepth 100000 in
theorem bwrite_any (B b : Nat) (bs : List Value) (s : ByteArray) (w : World) (h : Lib.IsBuilder 109 5 B b bs w) (hlen : bs.length + s.size ≤ 140737488355328) (hBw : B ≤ w.heap.size) :
    Calls Tryz.prog 48 #[.pointer (some ⟨b, 0, none⟩), .string s] w fun e w' => e = .returned (.tuple #[.int .i64 s.size, .nilIface]) ∧ Lib.BuilderAt 109 5 B b (.pointer (some ⟨b, 0, none⟩)) (bs ++ Lib.strCells s) w' ∧ Below B w w' ∧ Lib.OthersKept 5 (some b) w w' := by
  have hI : (Tryz.prog.info? 5).map (fun i => (i.zero, i.size, i.bytes)) = some (some (.int .u8 0), 1, 1) := by kernel_rfl
  obtain ⟨i0, hi, hz0, hz1, hz2⟩ := info_parts hI
  go_enter Tryz.func48, Tryz.ntmps48
  go_wp2_with (go_at_call 77; refine (bcheck_any B b bs _ h).mono ?_)
  rintro e w1 ⟨rfl, h1, hb1, hk1⟩
  obtain ⟨hB, v, hbk, hown, hne⟩ := h1
  have c0 : w1.cell? ⟨b, 0, none⟩ = some (.pointer (some ⟨b, 0, none⟩)) := by rw [Lib.cell_of_heap hbk]; rfl
  have c1 : w1.cell? ⟨b, 1, none⟩ = some v := by rw [Lib.cell_of_heap hbk]; rfl
  go_wp2_with (at_builtin; refine Lib.wpList_append_own_string _ rfl _ _ 107 9 rfl B 5 i0 Tryz.underlying107 Tryz.underlying9 hi hz0 hz1 hz2 _ _ _ rfl hown s rfl ?c3 ?c4 ?c5 ?_)
  case c3 => unfold maxLen; omega
  case c4 => omega
  case c5 => have := hb1.size; omega
  intro v' w2 hown' hgrow _
  have hlt : b < w1.heap.size := by
    rcases Nat.lt_or_ge b w1.heap.size with h' | h'
    · exact h'
    · simp [Array.getElem?_eq_none h'] at hbk
  have hb2 : w2.heap[b]? = some (.cells #[.pointer (some ⟨b, 0, none⟩), v] 109 (0, 0)) := by
    rw [hgrow.block b hlt (fun e => hne e.symm)]
    exact hbk
  have d0 : w2.cell? ⟨b, 0, none⟩ = some (.pointer (some ⟨b, 0, none⟩)) := by rw [Lib.cell_of_heap hb2]; rfl
  have d1 : w2.cell? ⟨b, 1, none⟩ = some v := by rw [Lib.cell_of_heap hb2]; rfl
  have f1 : w2.frozen? ⟨b, 1, none⟩ = false := Lib.frozen_of_heap hb2 1
  obtain ⟨ao, n', cap, rfl⟩ : ∃ ao n' cap, v' = .slice ao n' cap := by
    rcases hown'.2 with ⟨hv, _⟩ | ⟨g, cap, cur, hv, _⟩
    · exact ⟨_, _, _, hv⟩
    · exact ⟨_, _, _, hv⟩
  go_wp2
  go_ret2
  refine ⟨rfl, ?_, ?_, (hk1.grown hgrow (Lib.ownsRowF_kind (World.ownsRowF_of hown))).setCell ⟨b, 1, none⟩ rfl _⟩
  · exact Lib.BuilderAt.put (T := 109) (e := 5) hB hb2 (bs' := bs ++ Lib.strCells s) (by simpa [Lib.strCells_length] using hown') (by decide)
  · exact (hb1.grown hgrow (by have := hb1.size; omega) (fun k hk => (hown.lt k hk).1)).setCell (p := ⟨b, 1, none⟩) hB _

/-! ### In the words of this proof -/
/-- A builder that holds a text (from block b on nothing is older). -/
def Bld (b : Nat) (s : ByteArray) (w : World) : Prop := Lib.IsBuilder 109 5 b b (Lib.strCells s) w
theorem Bld.k0 {b : Nat} {s : ByteArray} {w w' : World} (h : Bld b s w) (hk : K0 w w') : Bld b s w' := by
  rcases h with ⟨h1, v, h2, h3, h4⟩ | ⟨h1, v, h2, h3, h4⟩
  · exact .inl ⟨h1, v, hk.blk h2 (fun h => h), owns_kp h3 hk (fun _ _ h => h), h4⟩
  · exact .inr ⟨h1, v, hk.blk h2 (fun h => h), owns_kp h3 hk (fun _ _ h => h), h4⟩
theorem Bld.lt {b : Nat} {s : ByteArray} {w : World} (h : Bld b s w) : b < w.heap.size := by
  rcases h with h | h <;> exact h.lt
theorem Bld.new {b : Nat} {w : World} (h : w.heap[b]? = some (.cells #[.pointer none, .slice none 0 0] 109 (0, 0))) : Bld b ⟨#[]⟩ w :=
  .inl ⟨Nat.le_refl _, .slice none 0 0, h, World.ownsRow_nil _ _ _ _, by simp [Value.ownBlock]⟩
theorem strCells_app (a b : ByteArray) : Lib.strCells (a ++ b) = Lib.strCells a ++ Lib.strCells b := by
  unfold Lib.strCells
  rw [ByteArray.toList_data_append, List.map_append]
theorem Bld.write {b : Nat} {t : ByteArray} {w : World} (h : Bld b t w) (s : ByteArray) (hl : t.size + s.size ≤ 140737488355328) :
    Calls Tryz.prog 48 #[.pointer (some ⟨b, 0, none⟩), .string s] w fun e w' => e = .returned (.tuple #[.int .i64 s.size, .nilIface]) ∧ Bld b (t ++ s) w' ∧ Kp (fun k => b ≤ k) w w' ∧
      ∀ k c ty f, w.heap[k]? = some (.cells c ty f) → k ≠ b → ty ≠ 5 → w'.heap[k]? = w.heap[k]? :=
  (bwrite_any b b _ s w h (by rw [Lib.strCells_length]; exact hl) (Nat.le_of_lt h.lt)).mono fun e w' ⟨he, h1, h2, h3⟩ => by
    rw [← strCells_app] at h1
    refine ⟨he, .inr h1, ⟨h2.os, h2.tape, h2.output, h2.size, fun k _ hb => h2.block k (by omega)⟩, fun k c ty f hk hb ht => ?_⟩
    rw [hk]
    exact h3 k _ hk (fun e => hb (Option.some.inj e)) (fun c' f' e => ht (by cases e; rfl))
theorem Bld.text {b : Nat} {s : ByteArray} {w : World} (h : Bld b s w) :
    Calls Tryz.prog 50 #[.pointer (some ⟨b, 0, none⟩)] w fun e w' => e = .returned (.string s) ∧ Kp (fun k => b ≤ k) w w' :=
  (Tryz.Builder_String_any b b s.data.toList w h (Nat.le_of_lt h.lt)).mono fun e w' ⟨he, h2⟩ => ⟨he, ⟨h2.os, h2.tape, h2.output, h2.size, fun k _ hb => h2.block k (by omega)⟩⟩

end Go.Proofs.YtgmmoghagpmpfaaGreatDoor

/- Rows and blocks of different types are apart. Generic: no program, no condition. -/
namespace Go.Proofs.YtgmmoghagpmpfaaGreatDoor
open Go.RowKit

theorem own_not {w : World} {base : Nat} {e t : TypeId} {size : Nat} {v : Value} {n : Nat} {xs : List Value} (h : w.ownsRow base e size v n xs) {k : Nat} {c : Array Value} {f : Nat × Nat} (hk : w.heap[k]? = some (.cells c t f)) (hne : (t == e) = false) : ¬ v.ownBlock = some k := fun he => by
  obtain ⟨c', h1⟩ := own_type h he
  rw [hk] at h1
  simp at h1
  rw [h1.2.1] at hne
  simp at hne
end Go.Proofs.YtgmmoghagpmpfaaGreatDoor

/- The formulas of functions by the symbolic evaluator, and that each gives the call's contract. Written by a program (gen.py). No condition. -/
namespace Go.Proofs.YtgmmoghagpmpfaaGreatDoor
set_option maxRecDepth 100000
set_option linter.unusedVariables false

def VC_skip (s : ByteArray) (k : Int) (f : FuncId) (fa : Array Value) (fb : Array Value) (w : World) (R : Ending → World → Prop) : Prop :=
 ∃ (I : List Value → World → Prop),
 ∃ (m : List Value → World → Nat),
 I [Value.int IntKind.i64 k] w ∧
 ∀ (x : Int) (w' : World),
 I [Value.int IntKind.i64 x] w' →
 gimp (decide (x < (↑s.size : Int))) (0 ≤ x ∧ x < (↑s.size : Int)) ∧
 bsp (decide (x < (↑s.size : Int)))
 (∃ (f_1 : Nat),
 ∃ (a : Array Value),
 ∃ (b : Array Value),
 Value.func (Fn.func f) fa fb = Value.func (Fn.func f_1) a b ∧
 okFn Tryz.prog f_1 = true ∧
 CallsS Tryz.prog f_1 (appA a [Value.int IntKind.u8 (at8 s x.toNat)] b) w' fun (e : Ending) (w'_1 : World) =>
 ∃ (x_1 : Bool),
 e = Ending.returned (Value.bool x_1) ∧
 KeptL [] w' w'_1 ∧
 bsp (true && x_1)
 (I [Value.int IntKind.i64 (IntKind.i64.wrap (x + 1))] w'_1 ∧
 m [Value.int IntKind.i64 (IntKind.i64.wrap (x + 1))] w'_1 < m [Value.int IntKind.i64 x] w')
 (R (Ending.returned (Value.int IntKind.i64 x)) w'_1))
 (KeptL [] w' w' ∧ R (Ending.returned (Value.int IntKind.i64 x)) w')
theorem vc_skip (s : ByteArray) (k : Int) (f : FuncId) (fa : Array Value) (fb : Array Value) (w : World) (R : Ending → World → Prop) (h : VC_skip s k f fa fb w R) : Calls Tryz.prog 92 ([Value.string
    s,
  Value.int IntKind.i64 k, Value.func (Fn.func f) fa fb] : List Value).toArray w R := by
  have e : execR2 { P := Tryz.prog, loops := [(1, [(1, Ck.int IntKind.i64)])], pur := pur1, tails := [], joins := [], boxes := [] } Tryz.f92.results.toList R (Tryz.f92.body.getD .skip) (initF [Value.string
    s,
  Value.int IntKind.i64 k,
  Value.func (Fn.func f) fa
    fb] (Tryz.f92.ntmps - ([Value.string s, Value.int IntKind.i64 k,
  Value.func (Fn.func f) fa fb] : List Value).length)) w = VC_skip s k f fa fb w R := by kernel_rfl
  have hb : Tryz.f92.body = some (Tryz.f92.body.getD .skip) := by kernel_rfl
  exact calls_of_exec2' (P := Tryz.prog) (fn := Tryz.f92) (c := Tryz.f92.body.getD .skip) (args := [Value.string s,
  Value.int IntKind.i64 k, Value.func (Fn.func f) fa fb]) (w := w) (R := R) pur1_ok Tryz.func92 hb e h

def VC_anum (s : ByteArray) (m : Int) (w : World) (R : Ending → World → Prop) : Prop :=
 bsp (!s.toList == [])
 (CallsS Tryz.prog 92 #[Value.string s, Value.int IntKind.i64 0, Value.func (Fn.func 93) #[] #[]] w
 fun (e : Ending) (w' : World) =>
 ∃ (x : Int),
 e = Ending.returned (Value.int IntKind.i64 x) ∧
 KeptL [] w w' ∧
 gimp (!(false || decide (x < (↑s.size : Int))) && decide ((↑s.size : Int) > 1)) ((0 : Int) ≤ 0 ∧ 0 < (↑s.size : Int)) ∧
 bsp (false || decide (x < (↑s.size : Int)) || decide ((↑s.size : Int) > 1) && at8 s 0 == 48)
 (R (Ending.returned (Value.tuple #[Value.int IntKind.i64 0, Value.int IntKind.i64 3])) w')
 (bsp (decide (m < 0)) (R (Ending.returned (Value.tuple #[Value.int IntKind.i64 0, Value.int IntKind.i64 2])) w')
 (∃ (I : List Value → World → Prop),
 ∃ (m_1 : List Value → World → Nat),
 I [Value.int IntKind.i64 0, Value.int IntKind.i64 0] w' ∧
 ∀ (x x_1 : Int) (w' : World),
 I [Value.int IntKind.i64 x, Value.int IntKind.i64 x_1] w' →
 bsp (decide (x < (↑s.size : Int)))
 ((0 ≤ x ∧ x < (↑s.size : Int)) ∧
 bsp
 (decide (x_1 > IntKind.i64.wrap (m.tdiv 10)) ||
 x_1 == IntKind.i64.wrap (m.tdiv 10) &&
 decide (IntKind.i64.wrap (IntKind.u8.wrap (at8 s x.toNat - 48)) > m.tmod 10))
 (R (Ending.returned (Value.tuple #[Value.int IntKind.i64 0, Value.int IntKind.i64 2])) w')
 (I
 [Value.int IntKind.i64 (IntKind.i64.wrap (x + 1)),
 Value.int IntKind.i64
 (IntKind.i64.wrap
 (IntKind.i64.wrap (10 * x_1) + IntKind.i64.wrap (IntKind.u8.wrap (at8 s x.toNat - 48))))]
 w' ∧
 m_1
 [Value.int IntKind.i64 (IntKind.i64.wrap (x + 1)),
 Value.int IntKind.i64
 (IntKind.i64.wrap
 (IntKind.i64.wrap (10 * x_1) + IntKind.i64.wrap (IntKind.u8.wrap (at8 s x.toNat - 48))))]
 w' <
 m_1 [Value.int IntKind.i64 x, Value.int IntKind.i64 x_1] w'))
 (R (Ending.returned (Value.tuple #[Value.int IntKind.i64 x_1, Value.int IntKind.i64 0])) w'))))
 (KeptL [] w w ∧ True ∧ R (Ending.returned (Value.tuple #[Value.int IntKind.i64 0, Value.int IntKind.i64 3])) w)
theorem vc_anum (s : ByteArray) (m : Int) (w : World) (R : Ending → World → Prop) (h : VC_anum s m w R) : Calls Tryz.prog 69 ([Value.string
    s,
  Value.int IntKind.i64 m] : List Value).toArray w R := by
  have e : execR2 { P := Tryz.prog, loops := [(7, [(32, Ck.int IntKind.i64), (6, Ck.int IntKind.i64)])], pur := pur1, tails := [], joins := [], boxes := [] } Tryz.f69.results.toList R (Tryz.f69.body.getD .skip) (initF [Value.string
    s,
  Value.int IntKind.i64
    m] (Tryz.f69.ntmps - ([Value.string s,
  Value.int IntKind.i64 m] : List Value).length)) w = VC_anum s m w R := by kernel_rfl
  have hb : Tryz.f69.body = some (Tryz.f69.body.getD .skip) := by kernel_rfl
  exact calls_of_exec2' (P := Tryz.prog) (fn := Tryz.f69) (c := Tryz.f69.body.getD .skip) (args := [Value.string s,
  Value.int IntKind.i64 m]) (w := w) (R := R) pur1_ok Tryz.func69 hb e h

def VC_digits (x : Int) (w : World) (R : Ending → World → Prop) : Prop :=
 CallsS Tryz.prog 76 #[Value.int IntKind.i64 x] w fun (e : Ending) (w' : World) =>
 ∃ (x : ByteArray), e = Ending.returned (Value.string x) ∧ KeptL [] w w' ∧ R (Ending.returned (Value.string x)) w'
theorem vc_digits (x : Int) (w : World) (R : Ending → World → Prop) (h : VC_digits x w R) : Calls Tryz.prog 46 ([Value.int
    IntKind.i64 x] : List Value).toArray w R := by
  have e : execR2 { P := Tryz.prog, loops := [], pur := pur1, tails := [], joins := [], boxes := [] } Tryz.f46.results.toList R (Tryz.f46.body.getD .skip) (initF [Value.int
    IntKind.i64
    x] (Tryz.f46.ntmps - ([Value.int IntKind.i64 x] : List Value).length)) w = VC_digits x w R := by kernel_rfl
  have hb : Tryz.f46.body = some (Tryz.f46.body.getD .skip) := by kernel_rfl
  exact calls_of_exec2' (P := Tryz.prog) (fn := Tryz.f46) (c := Tryz.f46.body.getD .skip) (args := [Value.int
    IntKind.i64 x]) (w := w) (R := R) pur1_ok Tryz.func46 hb e h

def VC_join (p : Option Addr) (n : Nat) (c : Nat) (s : ByteArray) (w : World) (R : Ending → World → Prop) : Prop :=
 bsp ((↑n : Int) == 0) (R (Ending.returned (Value.string (ByteArray.mk #[]))) w)
 (bsp ((↑n : Int) == 1)
 (nn true p fun (b o : Nat) =>
 ((0 : Int) ≤ 0 ∧ 0 < (↑n : Int)) ∧
 ∃ (x : ByteArray), w.cell? (Addr.mk b o none) = some (Value.string x) ∧ R (Ending.returned (Value.string x)) w)
 (bsp (decide ((↑s.size : Int) > 0))
 ((IntKind.i64 = IntKind.i64 ∧ IntKind.i64.wrap ((↑n : Int) - 1) ≠ 0) ∧
 bsp (decide ((↑s.size : Int) ≥ IntKind.i64.wrap (Int.tdiv 9223372036854775807 (IntKind.i64.wrap ((↑n : Int) - 1)))))
 False
 (∃ (I : List Value → World → Prop),
 ∃ (m : List Value → World → Nat),
 I
 [Value.int IntKind.i64 0,
 Value.int IntKind.i64
 (IntKind.i64.wrap (0 + IntKind.i64.wrap ((↑s.size : Int) * IntKind.i64.wrap ((↑n : Int) - 1))))]
 w ∧
 ∀ (x x_1 : Int) (w' : World),
 I [Value.int IntKind.i64 x, Value.int IntKind.i64 x_1] w' →
 bsp (decide (x < (↑n : Int)))
 (nn true p fun (b o : Nat) =>
 (0 ≤ x ∧ x < (↑n : Int)) ∧
 ∃ (x_2 : ByteArray),
 w'.cell? (Addr.mk b (o + x.toNat) none) = some (Value.string x_2) ∧
 bsp (decide ((↑x_2.size : Int) > IntKind.i64.wrap (9223372036854775807 - x_1))) False
 (I
 [Value.int IntKind.i64 (IntKind.i64.wrap (x + 1)),
 Value.int IntKind.i64 (IntKind.i64.wrap (x_1 + (↑x_2.size : Int)))]
 w' ∧
 m
 [Value.int IntKind.i64 (IntKind.i64.wrap (x + 1)),
 Value.int IntKind.i64 (IntKind.i64.wrap (x_1 + (↑x_2.size : Int)))]
 w' <
 m [Value.int IntKind.i64 x, Value.int IntKind.i64 x_1] w'))
 (∀ (n_1 : Nat) (W : World),
 Loc w.heap.size [Blk.mk n_1 109 [Value.pointer none, Value.slice none 0 0] 2] w' W →
 CallsS Tryz.prog 78 #[Value.pointer (some (Addr.mk n_1 0 none)), Value.int IntKind.i64 x_1] W
 fun (e : Ending) (w' : World) =>
 e = Ending.returned (Value.tuple #[]) ∧
 KeptL [] W w' ∧
 nn true p fun (b o : Nat) =>
 ((0 : Int) ≤ 0 ∧ 0 < (↑n : Int)) ∧
 ∃ (x : ByteArray),
 w'.cell? (Addr.mk b o none) = some (Value.string x) ∧
 CallsS Tryz.prog 48 #[Value.pointer (some (Addr.mk n_1 0 none)), Value.string x] w'
 fun (e : Ending) (w'_1 : World) =>
 ∃ (x : Int),
 ∃ (x_2 : Value),
 e = Ending.returned (Value.tuple #[Value.int IntKind.i64 x, x_2]) ∧
 KeptL [] w' w'_1 ∧
 ((0 : Int) ≤ 1 ∧ 1 ≤ (↑n : Int)) ∧
 ∃ (I : List Value → World → Prop),
 ∃ (m : List Value → World → Nat),
 I [Value.int IntKind.i64 0] w'_1 ∧
 ∀ (x : Int) (w' : World),
 I [Value.int IntKind.i64 x] w' →
 bsp (decide (x < (↑(n - Int.toNat 1) : Int)))
 (nn true (slA p c 1 1) fun (b o : Nat) =>
 (0 ≤ x ∧ x < (↑(n - 1) : Int)) ∧
 ∃ (x_3 : ByteArray),
 w'.cell? (Addr.mk b (o + x.toNat) none) = some (Value.string x_3) ∧
 CallsS Tryz.prog 48 #[Value.pointer (some (Addr.mk n_1 0 none)), Value.string s] w'
 fun (e : Ending) (w'_2 : World) =>
 ∃ (x_4 : Int),
 ∃ (x_5 : Value),
 e = Ending.returned (Value.tuple #[Value.int IntKind.i64 x_4, x_5]) ∧
 KeptL [] w' w'_2 ∧
 CallsS Tryz.prog 48
 #[Value.pointer (some (Addr.mk n_1 0 none)), Value.string x_3] w'_2
 fun (e : Ending) (w'_3 : World) =>
 ∃ (x_6 : Int),
 ∃ (x_7 : Value),
 e = Ending.returned (Value.tuple #[Value.int IntKind.i64 x_6, x_7]) ∧
 KeptL [] w'_2 w'_3 ∧
 I [Value.int IntKind.i64 (IntKind.i64.wrap (x + 1))] w'_3 ∧
 m [Value.int IntKind.i64 (IntKind.i64.wrap (x + 1))] w'_3 <
 m [Value.int IntKind.i64 x] w')
 (CallsS Tryz.prog 50 #[Value.pointer (some (Addr.mk n_1 0 none))] w'
 fun (e : Ending) (w'_2 : World) =>
 ∃ (x : ByteArray),
 e = Ending.returned (Value.string x) ∧
 KeptL [] w' w'_2 ∧ R (Ending.returned (Value.string x)) w'_2))))
 (∃ (I : List Value → World → Prop),
 ∃ (m : List Value → World → Nat),
 I [Value.int IntKind.i64 0, Value.int IntKind.i64 0] w ∧
 ∀ (x x_1 : Int) (w' : World),
 I [Value.int IntKind.i64 x, Value.int IntKind.i64 x_1] w' →
 bsp (decide (x < (↑n : Int)))
 (nn true p fun (b o : Nat) =>
 (0 ≤ x ∧ x < (↑n : Int)) ∧
 ∃ (x_2 : ByteArray),
 w'.cell? (Addr.mk b (o + x.toNat) none) = some (Value.string x_2) ∧
 bsp (decide ((↑x_2.size : Int) > IntKind.i64.wrap (9223372036854775807 - x_1))) False
 (I
 [Value.int IntKind.i64 (IntKind.i64.wrap (x + 1)),
 Value.int IntKind.i64 (IntKind.i64.wrap (x_1 + (↑x_2.size : Int)))]
 w' ∧
 m
 [Value.int IntKind.i64 (IntKind.i64.wrap (x + 1)),
 Value.int IntKind.i64 (IntKind.i64.wrap (x_1 + (↑x_2.size : Int)))]
 w' <
 m [Value.int IntKind.i64 x, Value.int IntKind.i64 x_1] w'))
 (∀ (n_1 : Nat) (W : World),
 Loc w.heap.size [Blk.mk n_1 109 [Value.pointer none, Value.slice none 0 0] 2] w' W →
 CallsS Tryz.prog 78 #[Value.pointer (some (Addr.mk n_1 0 none)), Value.int IntKind.i64 x_1] W
 fun (e : Ending) (w' : World) =>
 e = Ending.returned (Value.tuple #[]) ∧
 KeptL [] W w' ∧
 nn true p fun (b o : Nat) =>
 ((0 : Int) ≤ 0 ∧ 0 < (↑n : Int)) ∧
 ∃ (x : ByteArray),
 w'.cell? (Addr.mk b o none) = some (Value.string x) ∧
 CallsS Tryz.prog 48 #[Value.pointer (some (Addr.mk n_1 0 none)), Value.string x] w'
 fun (e : Ending) (w'_1 : World) =>
 ∃ (x : Int),
 ∃ (x_2 : Value),
 e = Ending.returned (Value.tuple #[Value.int IntKind.i64 x, x_2]) ∧
 KeptL [] w' w'_1 ∧
 ((0 : Int) ≤ 1 ∧ 1 ≤ (↑n : Int)) ∧
 ∃ (I : List Value → World → Prop),
 ∃ (m : List Value → World → Nat),
 I [Value.int IntKind.i64 0] w'_1 ∧
 ∀ (x : Int) (w' : World),
 I [Value.int IntKind.i64 x] w' →
 bsp (decide (x < (↑(n - Int.toNat 1) : Int)))
 (nn true (slA p c 1 1) fun (b o : Nat) =>
 (0 ≤ x ∧ x < (↑(n - 1) : Int)) ∧
 ∃ (x_3 : ByteArray),
 w'.cell? (Addr.mk b (o + x.toNat) none) = some (Value.string x_3) ∧
 CallsS Tryz.prog 48 #[Value.pointer (some (Addr.mk n_1 0 none)), Value.string s] w'
 fun (e : Ending) (w'_2 : World) =>
 ∃ (x_4 : Int),
 ∃ (x_5 : Value),
 e = Ending.returned (Value.tuple #[Value.int IntKind.i64 x_4, x_5]) ∧
 KeptL [] w' w'_2 ∧
 CallsS Tryz.prog 48
 #[Value.pointer (some (Addr.mk n_1 0 none)), Value.string x_3] w'_2
 fun (e : Ending) (w'_3 : World) =>
 ∃ (x_6 : Int),
 ∃ (x_7 : Value),
 e = Ending.returned (Value.tuple #[Value.int IntKind.i64 x_6, x_7]) ∧
 KeptL [] w'_2 w'_3 ∧
 I [Value.int IntKind.i64 (IntKind.i64.wrap (x + 1))] w'_3 ∧
 m [Value.int IntKind.i64 (IntKind.i64.wrap (x + 1))] w'_3 <
 m [Value.int IntKind.i64 x] w')
 (CallsS Tryz.prog 50 #[Value.pointer (some (Addr.mk n_1 0 none))] w'
 fun (e : Ending) (w'_2 : World) =>
 ∃ (x : ByteArray),
 e = Ending.returned (Value.string x) ∧
 KeptL [] w' w'_2 ∧ R (Ending.returned (Value.string x)) w'_2)))))
theorem vc_join (p : Option Addr) (n : Nat) (c : Nat) (s : ByteArray) (w : World) (R : Ending → World → Prop) (h : VC_join p n c s w R) : Calls Tryz.prog 49 ([Value.slice
    p n c,
  Value.string s] : List Value).toArray w R := by
  have e : execR2 { P := Tryz.prog, loops := [(12, [(41, Ck.int IntKind.i64), (5, Ck.int IntKind.i64)]), (22, [(65, Ck.int IntKind.i64)])], pur := pur1, tails := [], joins := [], boxes := [] } Tryz.f49.results.toList R (Tryz.f49.body.getD .skip) (initF [Value.slice
    p n c,
  Value.string
    s] (Tryz.f49.ntmps - ([Value.slice p n c,
  Value.string s] : List Value).length)) w = VC_join p n c s w R := by kernel_rfl
  have hb : Tryz.f49.body = some (Tryz.f49.body.getD .skip) := by kernel_rfl
  exact calls_of_exec2' (P := Tryz.prog) (fn := Tryz.f49) (c := Tryz.f49.body.getD .skip) (args := [Value.slice p n c,
  Value.string s]) (w := w) (R := R) pur1_ok Tryz.func49 hb e h

def VC_gncmp1 (s : ByteArray) (t : ByteArray) (w : World) (R : Ending → World → Prop) : Prop :=
 CallsS Tryz.prog 82 #[Value.string s] w fun (e : Ending) (w' : World) =>
 ∃ (p : Option Addr),
 ∃ (n : Nat),
 ∃ (c : Nat),
 e = Ending.returned (Value.slice p n c) ∧
 CallsS Tryz.prog 82 #[Value.string t] w' fun (e : Ending) (w' : World) =>
 ∃ (p_1 : Option Addr),
 ∃ (n_1 : Nat),
 ∃ (c_1 : Nat),
 e = Ending.returned (Value.slice p_1 n_1 c_1) ∧
 CallsS Tryz.prog 81 #[Value.slice p n c, Value.slice p_1 n_1 c_1] w' fun (e : Ending) (w' : World) =>
 ∃ (x : Int), e = Ending.returned (Value.int IntKind.i64 x) ∧ R (Ending.returned (Value.int IntKind.i64 x)) w'
theorem vc_gncmp1 (s : ByteArray) (t : ByteArray) (w : World) (R : Ending → World → Prop) (h : VC_gncmp1 s t w R) : Calls Tryz.prog 52 ([Value.string
    s,
  Value.string t] : List Value).toArray w R := by
  have e : execR { P := Tryz.prog, loops := [], pur := pur1, tails := [], joins := [], boxes := [] } Tryz.f52.results.toList R (Tryz.f52.body.getD .skip) (initF [Value.string
    s,
  Value.string
    t] (Tryz.f52.ntmps - ([Value.string s, Value.string t] : List Value).length)) w = VC_gncmp1 s t w R := by kernel_rfl
  have hb : Tryz.f52.body = some (Tryz.f52.body.getD .skip) := by kernel_rfl
  exact calls_of_exec' (P := Tryz.prog) (fn := Tryz.f52) (c := Tryz.f52.body.getD .skip) (args := [Value.string s,
  Value.string t]) (w := w) (R := R) pur1_ok Tryz.func52 hb e h

def VC_slcmp1 (p : Option Addr) (n : Nat) (c : Nat) (q : Option Addr) (k : Nat) (d : Nat) (w : World) (R : Ending → World → Prop) : Prop :=
 ∃ (I : List Value → World → Prop),
 ∃ (m : List Value → World → Nat),
 I [Value.int IntKind.i64 0] w ∧
 ∀ (x : Int) (w' : World),
 I [Value.int IntKind.i64 x] w' →
 bsp (decide (x < (↑n : Int)))
 (nn true p fun (b o : Nat) =>
 (0 ≤ x ∧ x < (↑n : Int)) ∧
 ∃ (x_1 : ByteArray),
 w'.cell? (Addr.mk b (o + x.toNat) none) = some (Value.string x_1) ∧
 bsp (decide (x ≥ (↑k : Int))) (R (Ending.returned (Value.int IntKind.i64 1)) w')
 (nn true q fun (b o : Nat) =>
 (0 ≤ x ∧ x < (↑k : Int)) ∧
 ∃ (x_2 : ByteArray),
 w'.cell? (Addr.mk b (o + x.toNat) none) = some (Value.string x_2) ∧
 CallsS Tryz.prog 108 #[Value.string x_1, Value.string x_2] w' fun (e : Ending) (w'_1 : World) =>
 ∃ (x_3 : Int),
 e = Ending.returned (Value.int IntKind.i64 x_3) ∧
 bsp (x_3 != 0) (R (Ending.returned (Value.int IntKind.i64 x_3)) w'_1)
 (I [Value.int IntKind.i64 (IntKind.i64.wrap (x + 1))] w'_1 ∧
 m [Value.int IntKind.i64 (IntKind.i64.wrap (x + 1))] w'_1 < m [Value.int IntKind.i64 x] w')))
 (bsp (decide ((↑n : Int) < (↑k : Int))) (R (Ending.returned (Value.int IntKind.i64 (-1))) w')
 (R (Ending.returned (Value.int IntKind.i64 0)) w'))
theorem vc_slcmp1 (p : Option Addr) (n : Nat) (c : Nat) (q : Option Addr) (k : Nat) (d : Nat) (w : World) (R : Ending → World → Prop) (h : VC_slcmp1 p n c q k d w R) : Calls Tryz.prog 81 ([Value.slice
    p n c,
  Value.slice q k d] : List Value).toArray w R := by
  have e : execR { P := Tryz.prog, loops := [(2, [(11, Ck.int IntKind.i64)])], pur := pur1, tails := [], joins := [], boxes := [] } Tryz.f81.results.toList R (Tryz.f81.body.getD .skip) (initF [Value.slice
    p n c,
  Value.slice q k
    d] (Tryz.f81.ntmps - ([Value.slice p n c,
  Value.slice q k d] : List Value).length)) w = VC_slcmp1 p n c q k d w R := by kernel_rfl
  have hb : Tryz.f81.body = some (Tryz.f81.body.getD .skip) := by kernel_rfl
  exact calls_of_exec' (P := Tryz.prog) (fn := Tryz.f81) (c := Tryz.f81.body.getD .skip) (args := [Value.slice p n c,
  Value.slice q k d]) (w := w) (R := R) pur1_ok Tryz.func81 hb e h

def VC_gparts1 (s : ByteArray) (w : World) (R : Ending → World → Prop) : Prop :=
 CallsS Tryz.prog 68 #[Value.string s, Value.string (ByteArray.mk #[46])] w fun (e : Ending) (w' : World) =>
 ∃ (p : Option Addr),
 ∃ (n : Nat), ∃ (c : Nat), e = Ending.returned (Value.slice p n c) ∧ R (Ending.returned (Value.slice p n c)) w'
theorem vc_gparts1 (s : ByteArray) (w : World) (R : Ending → World → Prop) (h : VC_gparts1 s w R) : Calls Tryz.prog 82 ([Value.string
    s] : List Value).toArray w R := by
  have e : execR { P := Tryz.prog, loops := [], pur := pur1, tails := [], joins := [], boxes := [] } Tryz.f82.results.toList R (Tryz.f82.body.getD .skip) (initF [Value.string
    s] (Tryz.f82.ntmps - ([Value.string s] : List Value).length)) w = VC_gparts1 s w R := by kernel_rfl
  have hb : Tryz.f82.body = some (Tryz.f82.body.getD .skip) := by kernel_rfl
  exact calls_of_exec' (P := Tryz.prog) (fn := Tryz.f82) (c := Tryz.f82.body.getD .skip) (args := [Value.string
    s]) (w := w) (R := R) pur1_ok Tryz.func82 hb e h

def VC_achasC (x : Int) (y : Int) (b : Nat) (w : World) (R : Ending → World → Prop) : Prop :=
 ∀ (n : Nat),
 ∃ (x_1 : Int),
 (∀ (W : World),
 Loc w.heap.size [Blk.mk n 105 [Value.int IntKind.i64 x, Value.int IntKind.i64 y] 2] w W →
 W.cell? (Addr.mk b 0 none) = some (Value.int IntKind.i64 x_1)) ∧
 ∃ (x_2 : Int),
 gimp (decide (x ≤ x_1))
 (∀ (W : World),
 Loc w.heap.size [Blk.mk n 105 [Value.int IntKind.i64 x, Value.int IntKind.i64 y] 2] w W →
 W.cell? (Addr.mk b 0 none) = some (Value.int IntKind.i64 x_2)) ∧
 ∃ (x_3 : Int),
 gimp (decide (x ≤ x_1))
 (∀ (W : World),
 Loc w.heap.size [Blk.mk n 105 [Value.int IntKind.i64 x, Value.int IntKind.i64 y] 2] w W →
 W.cell? (Addr.mk n (0 + 1) none) = some (Value.int IntKind.i64 x_3)) ∧
 ∀ (W : World),
 Loc w.heap.size [Blk.mk n 105 [Value.int IntKind.i64 x, Value.int IntKind.i64 y] 2] w W →
 R (Ending.returned (Value.bool (decide (x ≤ x_1) && decide (x_2 ≤ x_3)))) W
theorem vc_achasC (x : Int) (y : Int) (b : Nat) (w : World) (R : Ending → World → Prop) (h : VC_achasC x y b w R) : Calls Tryz.prog 86 ([Value.agg
    #[Value.int IntKind.i64 x, Value.int IntKind.i64 y],
  Value.pointer (some { block := b, off := 0 })] : List Value).toArray w R := by
  have e : execR2 { P := Tryz.prog, loops := [], pur := pur1, tails := [], joins := [], boxes := [] } Tryz.f86.results.toList R (Tryz.f86.body.getD .skip) (initF [Value.agg
    #[Value.int IntKind.i64 x, Value.int IntKind.i64 y],
  Value.pointer
    (some
      { block := b,
        off :=
          0 })] (Tryz.f86.ntmps - ([Value.agg #[Value.int IntKind.i64 x, Value.int IntKind.i64 y],
  Value.pointer (some { block := b, off := 0 })] : List Value).length)) w = VC_achasC x y b w R := by kernel_rfl
  have hb : Tryz.f86.body = some (Tryz.f86.body.getD .skip) := by kernel_rfl
  exact calls_of_exec2' (P := Tryz.prog) (fn := Tryz.f86) (c := Tryz.f86.body.getD .skip) (args := [Value.agg
    #[Value.int IntKind.i64 x, Value.int IntKind.i64 y],
  Value.pointer (some { block := b, off := 0 })]) (w := w) (R := R) pur1_ok Tryz.func86 hb e h

def VC_ackeepC (x : Int) (y : Int) (b : Nat) (w : World) (R : Ending → World → Prop) : Prop :=
 bsp (decide (x ≤ y))
 (∃ (p : Option Addr),
 ∃ (n : Nat),
 ∃ (c : Nat),
 w.cell? (Addr.mk b 0 none) = some (Value.slice p n c) ∧
 ∀ (n_1 : Nat) (W : World),
 Loc w.heap.size [Blk.mk n_1 105 [Value.int IntKind.i64 x, Value.int IntKind.i64 y] 2] w W →
 ∃ (base : Nat),
 ∃ (xs : List Value),
 W.ownsRow base 105 2 (Value.slice p n c) n xs ∧
 n + 1 ≤ 9223372036854775807 ∧
 (n + 1) * 16 ≤ 140737488355328 ∧
 base ≤ W.heap.size ∧
 ∀ (p' : Option Addr) (c' : Nat) (w' : World),
 w'.ownsRow base 105 2 (Value.slice p' (n + 1) c') (n + 1)
 (xs ++ [Value.int IntKind.i64 x, Value.int IntKind.i64 y]) →
 W.grownBy w' (Value.slice p n c).ownBlock →
 AppL W p n c 1 p' c' →
 KeptL [] W w' ∧
 ((∃ (u : Value), w'.cell? (Addr.mk b 0 none) = some u) ∧ w'.frozen? (Addr.mk b 0 none) = false) ∧
 ∀ (w1 : World),
 PutB w' b 0 [Value.slice p' (n + 1) c'] w1 →
 KeptL [] w' w1 ∧ R (Ending.returned (Value.tuple #[])) w1)
 (R (Ending.returned (Value.tuple #[])) w)
theorem vc_ackeepC (x : Int) (y : Int) (b : Nat) (w : World) (R : Ending → World → Prop) (h : VC_ackeepC x y b w R) : Calls Tryz.prog 65 ([Value.int
    IntKind.i64 x,
  Value.int IntKind.i64 y, Value.pointer (some { block := b, off := 0 })] : List Value).toArray w R := by
  have e : execR2 { P := Tryz.prog, loops := [], pur := pur1, tails := [], joins := [], boxes := [] } Tryz.f65.results.toList R (Tryz.f65.body.getD .skip) (initF [Value.int
    IntKind.i64 x,
  Value.int IntKind.i64 y,
  Value.pointer
    (some
      { block := b,
        off :=
          0 })] (Tryz.f65.ntmps - ([Value.int IntKind.i64 x, Value.int IntKind.i64 y,
  Value.pointer (some { block := b, off := 0 })] : List Value).length)) w = VC_ackeepC x y b w R := by kernel_rfl
  have hb : Tryz.f65.body = some (Tryz.f65.body.getD .skip) := by kernel_rfl
  exact calls_of_exec2' (P := Tryz.prog) (fn := Tryz.f65) (c := Tryz.f65.body.getD .skip) (args := [Value.int
    IntKind.i64 x,
  Value.int IntKind.i64 y, Value.pointer (some { block := b, off := 0 })]) (w := w) (R := R) pur1_ok Tryz.func65 hb e h

def VC_ivconF (p : Option Addr) (n : Nat) (c : Nat) (f : FuncId) (fa : Array Value) (fb : Array Value) (w : World) (R : Ending → World → Prop) : Prop :=
 CallsS Tryz.prog 109 #[Value.slice p n c, Value.func (Fn.func f) fa fb] w fun (e : Ending) (w' : World) =>
 ∃ (x : Int),
 e = Ending.returned (Value.int IntKind.i64 x) ∧ KeptL [] w w' ∧ R (Ending.returned (Value.bool (decide (x ≥ 0)))) w'
theorem vc_ivconF (p : Option Addr) (n : Nat) (c : Nat) (f : FuncId) (fa : Array Value) (fb : Array Value) (w : World) (R : Ending → World → Prop) (h : VC_ivconF p n c f fa fb w R) : Calls Tryz.prog 85 ([Value.slice
    p n c,
  Value.func (Fn.func f) fa fb] : List Value).toArray w R := by
  have e : execR2 { P := Tryz.prog, loops := [], pur := pur1, tails := [], joins := [], boxes := [] } Tryz.f85.results.toList R (Tryz.f85.body.getD .skip) (initF [Value.slice
    p n c,
  Value.func (Fn.func f) fa
    fb] (Tryz.f85.ntmps - ([Value.slice p n c,
  Value.func (Fn.func f) fa fb] : List Value).length)) w = VC_ivconF p n c f fa fb w R := by kernel_rfl
  have hb : Tryz.f85.body = some (Tryz.f85.body.getD .skip) := by kernel_rfl
  exact calls_of_exec2' (P := Tryz.prog) (fn := Tryz.f85) (c := Tryz.f85.body.getD .skip) (args := [Value.slice p n c,
  Value.func (Fn.func f) fa fb]) (w := w) (R := R) pur1_ok Tryz.func85 hb e h

def VC_ividxF (p : Option Addr) (n : Nat) (c : Nat) (f : FuncId) (fa : Array Value) (fb : Array Value) (w : World) (R : Ending → World → Prop) : Prop :=
 ∃ (I : List Value → World → Prop),
 ∃ (m : List Value → World → Nat),
 I [Value.int IntKind.i64 0] w ∧
 ∀ (x : Int) (w' : World),
 I [Value.int IntKind.i64 x] w' →
 bsp (decide (x < (↑n : Int)))
 (nn true p fun (b o : Nat) =>
 (0 ≤ x ∧ x < (↑n : Int)) ∧
 ∃ (x_1 : Int),
 ∃ (x_2 : Int),
 AtL w' b (o + x.toNat * 2) [Value.int IntKind.i64 x_1, Value.int IntKind.i64 x_2] ∧
 ∃ (f_1 : Nat),
 ∃ (a : Array Value),
 ∃ (b : Array Value),
 Value.func (Fn.func f) fa fb = Value.func (Fn.func f_1) a b ∧
 okFn Tryz.prog f_1 = true ∧
 CallsS Tryz.prog f_1 (appA a [Value.agg #[Value.int IntKind.i64 x_1, Value.int IntKind.i64 x_2]] b) w'
 fun (e : Ending) (w'_1 : World) =>
 ∃ (x_3 : Bool),
 e = Ending.returned (Value.bool x_3) ∧
 KeptL [] w' w'_1 ∧
 bsp x_3 (R (Ending.returned (Value.int IntKind.i64 x)) w'_1)
 (I [Value.int IntKind.i64 (IntKind.i64.wrap (x + 1))] w'_1 ∧
 m [Value.int IntKind.i64 (IntKind.i64.wrap (x + 1))] w'_1 < m [Value.int IntKind.i64 x] w'))
 (R (Ending.returned (Value.int IntKind.i64 (-1))) w')
theorem vc_ividxF (p : Option Addr) (n : Nat) (c : Nat) (f : FuncId) (fa : Array Value) (fb : Array Value) (w : World) (R : Ending → World → Prop) (h : VC_ividxF p n c f fa fb w R) : Calls Tryz.prog 109 ([Value.slice
    p n c,
  Value.func (Fn.func f) fa fb] : List Value).toArray w R := by
  have e : execR2 { P := Tryz.prog, loops := [(2, [(8, Ck.int IntKind.i64)])], pur := pur1, tails := [], joins := [], boxes := [] } Tryz.f109.results.toList R (Tryz.f109.body.getD .skip) (initF [Value.slice
    p n c,
  Value.func (Fn.func f) fa
    fb] (Tryz.f109.ntmps - ([Value.slice p n c,
  Value.func (Fn.func f) fa fb] : List Value).length)) w = VC_ividxF p n c f fa fb w R := by kernel_rfl
  have hb : Tryz.f109.body = some (Tryz.f109.body.getD .skip) := by kernel_rfl
  exact calls_of_exec2' (P := Tryz.prog) (fn := Tryz.f109) (c := Tryz.f109.body.getD .skip) (args := [Value.slice p n c,
  Value.func (Fn.func f) fa fb]) (w := w) (R := R) pur1_ok Tryz.func109 hb e h

def VC_ivequal (p : Option Addr) (n : Nat) (c : Nat) (q : Option Addr) (k : Nat) (d : Nat) (w : World) (R : Ending → World → Prop) : Prop :=
 bsp ((↑n : Int) != (↑k : Int)) (R (Ending.returned (Value.bool false)) w)
 (∃ (I : List Value → World → Prop),
 ∃ (m : List Value → World → Nat),
 I [Value.int IntKind.i64 0] w ∧
 ∀ (x : Int) (w' : World),
 I [Value.int IntKind.i64 x] w' →
 bsp (decide (x < (↑n : Int)))
 (nn true p fun (b o : Nat) =>
 (0 ≤ x ∧ x < (↑n : Int)) ∧
 ∃ (x_1 : Int),
 ∃ (x_2 : Int),
 (∀ (W : World),
 Loc w.heap.size [] w' W →
 AtL W b (o + x.toNat * 2) [Value.int IntKind.i64 x_1, Value.int IntKind.i64 x_2]) ∧
 nn true q fun (b o : Nat) =>
 (0 ≤ x ∧ x < (↑k : Int)) ∧
 ∃ (x_3 : Int),
 ∃ (x_4 : Int),
 (∀ (W : World),
 Loc w.heap.size [] w' W →
 AtL W b (o + x.toNat * 2) [Value.int IntKind.i64 x_3, Value.int IntKind.i64 x_4]) ∧
 ∃ (r : Bool),
 EqP Tryz.prog 105 (Value.agg #[Value.int IntKind.i64 x_1, Value.int IntKind.i64 x_2])
 (Value.agg #[Value.int IntKind.i64 x_3, Value.int IntKind.i64 x_4]) r ∧
 bsp (!r) (∀ (W : World), Loc w.heap.size [] w' W → R (Ending.returned (Value.bool false)) W)
 (∀ (W : World),
 Loc w.heap.size [] w' W →
 I [Value.int IntKind.i64 (IntKind.i64.wrap (x + 1))] W ∧
 m [Value.int IntKind.i64 (IntKind.i64.wrap (x + 1))] W < m [Value.int IntKind.i64 x] w'))
 (R (Ending.returned (Value.bool true)) w'))
theorem vc_ivequal (p : Option Addr) (n : Nat) (c : Nat) (q : Option Addr) (k : Nat) (d : Nat) (w : World) (R : Ending → World → Prop) (h : VC_ivequal p n c q k d w R) : Calls Tryz.prog 59 ([Value.slice
    p n c,
  Value.slice q k d] : List Value).toArray w R := by
  have e : execR2 { P := Tryz.prog, loops := [(4, [(13, Ck.int IntKind.i64)])], pur := pur1, tails := [], joins := [], boxes := [] } Tryz.f59.results.toList R (Tryz.f59.body.getD .skip) (initF [Value.slice
    p n c,
  Value.slice q k
    d] (Tryz.f59.ntmps - ([Value.slice p n c,
  Value.slice q k d] : List Value).length)) w = VC_ivequal p n c q k d w R := by kernel_rfl
  have hb : Tryz.f59.body = some (Tryz.f59.body.getD .skip) := by kernel_rfl
  exact calls_of_exec2' (P := Tryz.prog) (fn := Tryz.f59) (c := Tryz.f59.body.getD .skip) (args := [Value.slice p n c,
  Value.slice q k d]) (w := w) (R := R) pur1_ok Tryz.func59 hb e h

def VC_isDig27 (c : Int) (w : World) (R : Ending → World → Prop) : Prop :=
 R (Ending.returned (Value.bool (decide (c ≥ 48) && decide (c ≤ 57)))) w
theorem vc_isDig27 (c : Int) (w : World) (R : Ending → World → Prop) (h : VC_isDig27 c w R) : Calls Tryz.prog 93 ([Value.int
    IntKind.u8 c] : List Value).toArray w R := by
  have e : execR { P := Tryz.prog, loops := [], pur := pur1, tails := [], joins := [], boxes := [] } Tryz.f93.results.toList R (Tryz.f93.body.getD .skip) (initF [Value.int
    IntKind.u8
    c] (Tryz.f93.ntmps - ([Value.int IntKind.u8 c] : List Value).length)) w = VC_isDig27 c w R := by kernel_rfl
  have hb : Tryz.f93.body = some (Tryz.f93.body.getD .skip) := by kernel_rfl
  exact calls_of_exec' (P := Tryz.prog) (fn := Tryz.f93) (c := Tryz.f93.body.getD .skip) (args := [Value.int IntKind.u8
    c]) (w := w) (R := R) pur1_ok Tryz.func93 hb e h

end Go.Proofs.YtgmmoghagpmpfaaGreatDoor
