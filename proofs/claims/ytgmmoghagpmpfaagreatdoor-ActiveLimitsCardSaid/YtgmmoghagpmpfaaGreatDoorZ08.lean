/- Chapter 27: the contracts of ascii.Number, ascii.Digits, strings.Join (a byte between), the reference's decimal numbers. Texts are not too long; the library's table of powers of ten reads as laid. -/
import Derived.Test.YtgmmoghagpmpfaaGreatDoorZ07
import Derived.Lib.ItoaLen
import Derived.WalkKit
import Derived.Laws.IdiomStrings
import Derived.Deep.RegionWith
import Derived.Shelf.RegionOpenPlain
import Derived.Handy
import Derived.Test.YtgmmoghagpmpfaaGreatDoorZ05
import Derived.Test.YtgmmoghagpmpfaaGreatDoorZ03
import Derived.LaidSub
import Derived.Lib.LaidTab
import Derived.Test.YtgmmoghagpmpfaaGreatDoorZ06
import Derived.Maps.RangeRun
import Derived.Test.YtgmmoghagpmpfaaGreatDoorProg
import Derived.Test.YtgmmoghagpmpfaaGreatDoorZ02
import Derived.KernelRfl
import Derived.Lib.BytesEntry
import Derived.Test.YtgmmoghagpmpfaaGreatDoorZ04
import Derived.Laws.StructEq
namespace Go.Proofs.YtgmmoghagpmpfaaGreatDoor
open Go.RowKit

/-! ### Numbers -/
def SkipTo (p : Int → Bool) (s : ByteArray) (a i : Nat) : Prop := a ≤ i ∧ i ≤ s.size ∧ (∀ j, a ≤ j → j < i → p (at8 s j) = true) ∧ (i < s.size → p (at8 s i) = false)
theorem SkipTo.uniq {p : Int → Bool} {s : ByteArray} {a i k : Nat} (h : SkipTo p s a i) (g : SkipTo p s a k) : i = k := by
  obtain ⟨h1, h2, h3, h4⟩ := h
  obtain ⟨g1, g2, g3, g4⟩ := g
  rcases Nat.lt_trichotomy i k with h | h | h
  · have := g3 i h1 h; rw [h4 (by omega)] at this; cases this
  · exact h
  · have := h3 k g1 h; rw [g4 (by omega)] at this; cases this
theorem skip_any (s : ByteArray) (k : Nat) (f : FuncId) (fa fb : Array Value) (g : Int → Bool) (w : World) (hk : k ≤ s.size) (hs : s.size ≤ 4294967296) (hok : okFn Tryz.prog f = true)
    (hF : ∀ c, 0 ≤ c ∧ c ≤ 255 → ∀ w1, K0 w w1 → Calls Tryz.prog f (appA fa [.int .u8 c] fb) w1 fun e w2 => e = .returned (.bool (g c)) ∧ K0 w1 w2) :
    Calls Tryz.prog 92 #[.string s, .int .i64 k, .func (.func f) fa fb] w fun e w' => (∃ i : Nat, e = .returned (.int .i64 i) ∧ SkipTo g s k i) ∧ K0 w w' := by
  refine vc_skip s k f fa fb w _ ?_
  refine ⟨fun vs w' => ∃ i : Nat, vs = [.int .i64 (i : Int)] ∧ k ≤ i ∧ i ≤ s.size ∧ (∀ j, k ≤ j → j < i → g (at8 s j) = true) ∧ K0 w w',
    fun vs _ => (match vs with | .int _ x :: _ => s.size - x.toNat | _ => 0), ⟨k, rfl, by omega, hk, (fun j h1 h2 => by omega), .refl _ _⟩, ?_⟩
  rintro x w1 ⟨i, hv, h1, hi, hall, k1⟩
  simp only [List.cons.injEq, Value.int.injEq, true_and, and_true] at hv
  subst hv
  refine ⟨gimp_intro fun h => ⟨by omega, by simpa using h⟩, bsp_intro (fun hlt => ?_) (fun hge => ?_)⟩
  · have hlt : i < s.size := by simp at hlt; omega
    rw [Int.toNat_natCast]
    refine ⟨f, fa, fb, rfl, hok, ⟨(hF (at8 s i) (at8_bd s i) w1 k1).mono fun e w2 ⟨he, k2⟩ => ⟨_, he, .of_k0 k2, bsp_intro (fun hg => ?_) (fun hg => ?_)⟩⟩⟩
    · have hg : g (at8 s i) = true := by simpa using hg
      refine ⟨⟨i + 1, by rw [inc64 (by omega)], by omega, hlt, fun j hj hj2 => ?_, k1.trans k2⟩, by rw [inc64 (by omega)]; simp only [Int.toNat_natCast]; omega⟩
      by_cases e : j = i
      · rw [e]; exact hg
      · exact hall j hj (by omega)
    · have hg : g (at8 s i) = false := by simpa using hg
      exact ⟨⟨i, rfl, h1, hi, hall, fun _ => hg⟩, k1.trans k2⟩
  · exact ⟨.refl _ _, ⟨i, rfl, h1, hi, hall, fun h => by simp at hge; omega⟩, k1⟩
theorem isDigit_any (c : Int) (w : World) : Calls Tryz.prog 93 #[.int .u8 c] w fun e w' => e = .returned (.bool (digitB c)) ∧ w' = w := vc_isDig27 c w _ ⟨rfl, rfl⟩
theorem dig_i (c : Int) : digitB c = true ↔ 48 ≤ c ∧ c ≤ 57 := by unfold digitB; simp
theorem dig_wr {c : Int} (h : 48 ≤ c ∧ c ≤ 57) : IntKind.i64.wrap (IntKind.u8.wrap (c - 48)) = c - 48 := by
  rw [IntWalk.u8_in _ ⟨by omega, by omega⟩, wr64 (by omega) (by omega)]
theorem anum_any (s : ByteArray) (m : Int) (w : World) (hs : s.size ≤ 4294967296) (hm : m ≤ 4611686018427387904) :
    Calls Tryz.prog 69 #[.string s, .int .i64 m] w fun e w' => e = .returned (.tuple #[.int .i64 (numR s m).1, .int .i64 (numR s m).2]) ∧ K0 w w' := by
  refine vc_anum s m w _ ?_
  unfold VC_anum
  rw [toList_nil]
  refine bsp_intro (fun h0 => ?_) (fun h0 => ?_)
  · have h0 : ¬ s.size = 0 := by simpa using h0
    have h0 : 0 < s.size := by omega
    refine ⟨(skip_any s 0 93 #[] #[] digitB w (by omega) hs (by kernel_rfl) (fun c _ w1 _ => (isDigit_any c w1).mono fun e w2 ⟨he, hw⟩ => ⟨he, by rw [hw]; exact .refl _ _⟩)).mono fun e w1 ⟨⟨i, he, _, hi, hall, hst⟩, k1⟩ => ⟨_, he, .of_k0 k1, gimp_intro fun _ => ⟨by omega, by omega⟩, bsp_intro (fun hb => ?_) (fun hb => ?_)⟩⟩
    · have hn : ¬ NumOK s := by
        rintro ⟨_, hd, hz⟩
        simp only [Bool.false_or, Bool.or_eq_true, Bool.and_eq_true, decide_eq_true_eq, beq_iff_eq] at hb
        rcases hb with hb | ⟨h1, h2⟩
        · have hlt : i < s.size := by omega
          have := (dig_i _).2 (hd i hlt)
          rw [hst hlt] at this
          cases this
        · exact hz (by omega) h2
      exact ⟨by unfold numR; rw [if_neg hn], k1⟩
    have hb' : ¬ ((i : Int) < (s.size : Int)) ∧ ¬ ((s.size : Int) > 1 ∧ at8 s 0 = 48) := by
      simp only [Bool.false_or, Bool.or_eq_false_iff, Bool.and_eq_false_iff, decide_eq_false_iff_not, beq_eq_false_iff_ne] at hb
      exact ⟨hb.1, fun h => hb.2.elim (fun h2 => h2 h.1) (fun h2 => h2 h.2)⟩
    have hd : ∀ j, j < s.size → 48 ≤ at8 s j ∧ at8 s j ≤ 57 := fun j hj => (dig_i _).1 (hall j (by omega) (by omega))
    have hok : NumOK s := ⟨h0, hd, fun h1 h2 => hb'.2 ⟨by omega, h2⟩⟩
    refine bsp_intro (fun hneg => ?_) (fun hneg => ?_)
    · exact ⟨by unfold numR; rw [if_pos hok, if_pos (by simpa using hneg)], k1⟩
    have hneg : ¬ m < 0 := by simpa using hneg
    have eR : numR s m = if nvF s s.size ≤ m then (nvF s s.size, 0) else (0, 2) := by unfold numR; rw [if_pos hok, if_neg hneg]
    rw [eR]
    refine ⟨fun vs w' => ∃ k : Nat, vs = [.int .i64 (k : Int), .int .i64 (nvF s k)] ∧ k ≤ s.size ∧ nvF s k ≤ m ∧ K0 w w',
      fun vs _ => (match vs with | .int _ x :: _ => s.size - x.toNat | _ => 0), ⟨0, rfl, by omega, by simp [nvF]; omega, k1⟩, ?_⟩
    rintro x y w2 ⟨k, hv, hk, hle, k2⟩
    simp only [List.cons.injEq, Value.int.injEq, true_and, and_true] at hv
    obtain ⟨rfl, rfl⟩ := hv
    have hnn := nvF_nonneg hd k hk
    refine bsp_intro (fun hlt => ?_) (fun hge => ?_)
    · have hlt : k < s.size := by simp at hlt; omega
      have hdk := hd k hlt
      rw [Int.toNat_natCast, dig_wr hdk, Int.tdiv_eq_ediv_of_nonneg (by omega), Int.tmod_eq_emod_of_nonneg (by omega), wr64 (x := m / 10) (by omega) (by omega)]
      have e1 : nvF s (k + 1) = 10 * nvF s k + (at8 s k - 48) := rfl
      refine ⟨⟨by omega, by omega⟩, bsp_intro (fun hg => ?_) (fun hg => ?_)⟩
      · have hgt : m < nvF s (k + 1) := by
          simp only [Bool.or_eq_true, Bool.and_eq_true, decide_eq_true_eq, beq_iff_eq] at hg
          omega
        have hmo := nvF_mono hd (k + 1) (s.size - (k + 1)) (by omega)
        rw [show k + 1 + (s.size - (k + 1)) = s.size by omega] at hmo
        exact ⟨by rw [if_neg (by omega)], k2⟩
      · have hgt : nvF s (k + 1) ≤ m := by
          simp only [Bool.or_eq_false_iff, Bool.and_eq_false_iff, decide_eq_false_iff_not, beq_eq_false_iff_ne] at hg
          omega
        rw [inc64 (by omega), wr64 (x := 10 * nvF s k) (by omega) (by omega), wr64 (x := 10 * nvF s k + (at8 s k - 48)) (by omega) (by omega)]
        exact ⟨⟨k + 1, rfl, hlt, hgt, k2⟩, by simp only [Int.toNat_natCast]; omega⟩
    · have hk' : k = s.size := by simp at hge; omega
      subst hk'
      exact ⟨by rw [if_pos hle], k2⟩
  · have h0 : s.size = 0 := by simpa using h0
    exact ⟨.refl _ _, trivial, by unfold numR; rw [if_neg (fun h => by have := h.1; omega)], .refl _ _⟩

/-- The table of powers of ten reads as it was laid. -/
def GT (w : World) : Prop := Lib.TabIs Tryz.prog w "internal/strconv.uint64pow10" .u64 Lib.pow10Tab
theorem GT.k0 {w w' : World} (h : GT w) (hk : K0 w w') : GT w' := by
  unfold GT Lib.TabIs World.var? at *
  cases hg : Tryz.prog.globalNamed "internal/strconv.uint64pow10" with
  | none => simp [hg] at h
  | some g =>
    simp only [hg, Option.bind_some] at h ⊢
    have hlt : g < w.heap.size := by
      rcases Nat.lt_or_ge g w.heap.size with h' | h'
      · exact h'
      · rw [Array.getElem?_eq_none h'] at h; simp at h
    rw [hk.block g hlt (fun h => h)]
    exact h
theorem grow_k0 (w : World) (k : Nat) (os : Array Obj) : K0 w (Go.Sort.grow (w.drewN k) os) :=
  ⟨rfl, rfl, rfl, by show w.heap.size ≤ (w.heap ++ os).size; rw [Array.size_append]; omega, fun j hj _ => by show (w.heap ++ os)[j]? = _; rw [Array.getElem?_append_left hj]⟩
def I64 (x : Int) : Prop := -9223372036854775808 ≤ x ∧ x ≤ 9223372036854775807
theorem decI_size {x : Int} (h : I64 x) : (decI x).size ≤ 21 := by
  have := Lib.itoa_length_le x h.1 h.2
  show (Lib.itoa x).toArray.size ≤ 21
  simpa using this
theorem digits_any (x : Int) (w : World) (hT : GT w) (h : I64 x) :
    Calls Tryz.prog 46 #[.int .i64 x] w fun e w' => e = .returned (.string (decI x)) ∧ K0 w w' := by
  refine vc_digits x w _ ⟨(Tryz.strconv_Itoa x h.1 h.2 w hT).mono fun e w1 ⟨he, k, os, hw⟩ => ⟨_, he, ?_⟩⟩
  have k1 : K0 w w1 := by rw [hw]; exact grow_k0 w k os
  exact ⟨.of_k0 k1, rfl, k1⟩

def sumZ (l : List ByteArray) : Nat := (l.map ByteArray.size).sum
theorem sumZ_snoc (l : List ByteArray) (x : ByteArray) : sumZ (l ++ [x]) = sumZ l + x.size := by simp [sumZ]
theorem sumZ_cons (l : List ByteArray) (x : ByteArray) : sumZ (x :: l) = x.size + sumZ l := by simp [sumZ]
theorem sumZ_take : ∀ (l : List ByteArray) (i : Nat), sumZ (l.take i) ≤ sumZ l
  | [], i => by rw [List.take_nil]; exact Nat.le_refl _
  | x :: l, 0 => Nat.zero_le _
  | x :: l, i + 1 => by rw [List.take_succ_cons, sumZ_cons, sumZ_cons]; have := sumZ_take l i; omega
theorem foldT_size (c : UInt8) : ∀ (l : List ByteArray) (a : ByteArray), (l.foldl (fun a y => a ++ ⟨#[c]⟩ ++ y) a).size = a.size + l.length + sumZ l
  | [], a => by simp [sumZ]
  | x :: l, a => by
    rw [List.foldl_cons, foldT_size c l, ByteArray.size_append, ByteArray.size_append, size_one, sumZ_cons, List.length_cons]; omega
theorem joinT_size (c : UInt8) (l : List ByteArray) : (joinT c l).size ≤ l.length + sumZ l := by
  cases l with
  | nil => exact Nat.le_refl _
  | cons x r => show (r.foldl _ x).size ≤ _; rw [foldT_size, sumZ_cons, List.length_cons]; omega

theorem join_any (d : UInt8) (l : List ByteArray) (p : Option Addr) (c : Nat) (w : World) (hR : StrP w p l) (hl : l.length ≤ 1073741824) (hz : sumZ l ≤ 1073741824) (hc : l.length ≤ c) :
    Calls Tryz.prog 49 #[.slice p l.length c, .string ⟨#[d]⟩] w fun e w' => e = .returned (.string (joinT d l)) ∧ K0 w w' := by
  refine vc_join p l.length c ⟨#[d]⟩ w _ (bsp_intro (fun h0 => ?_) (fun h0 => bsp_intro (fun h1 => ?_) (fun h1 => bsp_intro (fun _ => ?_) (fun h => by rw [size_one] at h; simp at h))))
  · have h0 : l.length = 0 := by simp at h0; simp [h0]
    have : l = [] := List.eq_nil_of_length_eq_zero h0
    subst this
    exact ⟨rfl, .refl _ _⟩
  · have h1 : l.length = 1 := by simp at h1; omega
    match l, h1 with
    | [x], _ =>
      obtain ⟨z, b, o, hz', hp, hc'⟩ := str_get hR (k := 0) (by simp)
      simp at hz'; subst hz'
      exact nn_is hp ⟨⟨by omega, by show (0 : Int) < 1; omega⟩, x, by simpa using hc', rfl, .refl _ _⟩
  have h0 : ¬ l.length = 0 := by simp at h0; intro e; exact h0 (List.eq_nil_of_length_eq_zero e)
  have h1 : ¬ l.length = 1 := by simp at h1; omega
  have e1 : IntKind.i64.wrap ((l.length : Int) - 1) = ((l.length - 1 : Nat) : Int) := by rw [wr64 (by omega) (by omega)]; omega
  rw [e1]
  refine ⟨⟨rfl, by omega⟩, bsp_intro (fun h => ?_) (fun _ => ?_)⟩
  · exfalso
    rw [size_one] at h
    have hd : (1 : Int) < (9223372036854775807 : Int).tdiv ((l.length - 1 : Nat) : Int) := by
      rw [Int.tdiv_eq_ediv_of_nonneg (by omega)]
      have : (2 : Int) ≤ 9223372036854775807 / ((l.length - 1 : Nat) : Int) := by
        rw [Int.le_ediv_iff_mul_le (by omega)]; omega
      omega
    have hu : (9223372036854775807 : Int).tdiv ((l.length - 1 : Nat) : Int) ≤ 9223372036854775807 := by
      rw [Int.tdiv_eq_ediv_of_nonneg (by omega)]
      exact Int.ediv_le_self _ (by omega)
    rw [wr64 (by omega) hu] at h
    simp at h
    omega
  have e2 : IntKind.i64.wrap (0 + IntKind.i64.wrap (((⟨#[d]⟩ : ByteArray).size : Int) * ((l.length - 1 : Nat) : Int))) = ((l.length - 1 : Nat) : Int) := by
    rw [size_one, wr64 (x := ((1 : Nat) : Int) * _) (by omega) (by omega), wr64 (by omega) (by omega)]; omega
  rw [e2]
  refine ⟨fun vs w' => ∃ i : Nat, vs = [.int .i64 (i : Int), .int .i64 ((l.length - 1 + sumZ (l.take i) : Nat) : Int)] ∧ i ≤ l.length ∧ K0 w w',
    fun vs _ => (match vs with | .int _ x :: _ => l.length - x.toNat | _ => 0), ⟨0, by simp [sumZ], by omega, .refl _ _⟩, ?_⟩
  rintro x x1 w1 ⟨i, hv, hi, k1⟩
  simp only [List.cons.injEq, Value.int.injEq, true_and, and_true] at hv
  obtain ⟨rfl, rfl⟩ := hv
  have hst := sumZ_take l i
  refine bsp_intro (fun hlt => ?_) (fun hge => ?_)
  · have hlt : i < l.length := by simp at hlt; omega
    obtain ⟨z, b, o, hz', hp, hc'⟩ := str_get (hR.k0 k1) hlt
    have hs2 := sumZ_take l (i + 1)
    rw [take_snoc hz', sumZ_snoc] at hs2
    rw [Int.toNat_natCast]
    refine nn_is hp ⟨⟨by omega, by omega⟩, z, hc', bsp_intro (fun h => ?_) (fun _ => ⟨⟨i + 1, ?_, hlt, k1⟩, by rw [inc64 (by omega)]; simp only [Int.toNat_natCast]; omega⟩)⟩
    · exfalso
      rw [wr64 (by omega) (by omega)] at h
      simp at h
      omega
    · rw [inc64 (by omega), wr64 (x := ((l.length - 1 + sumZ (l.take i) : Nat) : Int) + (z.size : Int)) (by omega) (by omega), take_snoc hz', sumZ_snoc]
      simp
      omega
  intro n1 W hW
  have kW : K0 w W := k1.trans (hW.kk rfl)
  have gn : w.heap.size ≤ n1 := Nat.le_trans k1.size (hW.fresh 0 rfl rfl)
  have hbk : W.heap[n1]? = some (.cells #[.pointer none, .slice none 0 0] 109 (0, 0)) := hW.cells 0 rfl
  refine ⟨(Tryz.Builder_Grow_fresh n1 n1 _ W (Nat.le_refl _) hbk (Nat.le_of_lt (block_lt hbk)) (by omega)).mono fun e w2 ⟨he, h2, b2⟩ => ⟨he, ⟨b2.size, fun _ hm => by cases hm⟩, ?_⟩⟩
  have kb2 : Kp (fun k => n1 ≤ k) W w2 := ⟨b2.os, b2.tape, b2.output, b2.size, fun k _ hb => b2.block k (by omega)⟩
  have k2 : K0 w w2 := kW.fresh kb2 (fun j hj e => by omega)
  have hB2 : Bld n1 ⟨#[]⟩ w2 := .inr h2
  obtain ⟨x0, b, o, hx0, hp, hc0⟩ := str_get (hR.k0 k2) (k := 0) (by omega)
  have hs1 := sumZ_take l 1
  rw [take_snoc hx0, sumZ_snoc] at hs1
  refine nn_is hp ⟨⟨by omega, by omega⟩, x0, by simpa using hc0, ?_⟩
  have hx0z : x0.size ≤ 1073741824 := by omega
  refine ⟨(hB2.write x0 (by show 0 + _ ≤ _; omega)).mono fun e w3 ⟨he, hB3, kb3, _⟩ => ⟨_, _, he, ⟨kb3.size, fun _ hm => by cases hm⟩, ⟨by omega, by omega⟩, ?_⟩⟩
  have k3 : K0 w w3 := k2.fresh kb3 (fun j hj e => by omega)
  have e3 : (⟨#[]⟩ ++ x0 : ByteArray) = joinT d (l.take 1) := by
    rw [take_snoc hx0]; show (ByteArray.empty ++ x0) = x0; simp
  rw [e3] at hB3
  have e4 : ((l.length - Int.toNat 1 : Nat) : Int) = ((l.length - 1 : Nat) : Int) := rfl
  rw [e4]
  refine ⟨fun vs w' => ∃ i : Nat, vs = [.int .i64 (i : Int)] ∧ i + 1 ≤ l.length ∧ Bld n1 (joinT d (l.take (i + 1))) w' ∧ K0 w w',
    fun vs _ => (match vs with | .int _ x :: _ => l.length - x.toNat | _ => 0), ⟨0, rfl, by omega, hB3, k3⟩, ?_⟩
  rintro y w4 ⟨i, hv, hi4, hB4, k4⟩
  simp only [List.cons.injEq, Value.int.injEq, true_and, and_true] at hv
  subst hv
  have hjz := joinT_size d (l.take (i + 1))
  have hst4 := sumZ_take l (i + 1)
  have hlt4 : (l.take (i + 1)).length ≤ l.length := by rw [List.length_take]; omega
  refine bsp_intro (fun hlt => ?_) (fun hge => ?_)
  · have hlt : i + 1 < l.length := by simp at hlt; omega
    obtain ⟨z, b', o', hz', hp', hc'⟩ := str_get (hR.k0 k4) hlt
    have hs2 := sumZ_take l (i + 1 + 1)
    rw [take_snoc hz', sumZ_snoc] at hs2
    have hpp : slA p c 1 1 = some ⟨b', o' + 1, none⟩ := by
      rw [hp']
      unfold slA
      rw [if_neg (by omega)]
      rfl
    rw [Int.toNat_natCast]
    refine nn_is hpp ⟨⟨by omega, by omega⟩, z, by rw [show o' + 1 + i = o' + (i + 1) by omega]; exact hc', ?_⟩
    refine ⟨(hB4.write ⟨#[d]⟩ (by rw [size_one]; omega)).mono fun e w5 ⟨he, hB5, kb5, _⟩ => ⟨_, _, he, ⟨kb5.size, fun _ hm => by cases hm⟩, ?_⟩⟩
    refine ⟨(hB5.write z (by simp only [ByteArray.size_append, size_one]; omega)).mono fun e w6 ⟨he, hB6, kb6, _⟩ => ⟨_, _, he, ⟨kb6.size, fun _ hm => by cases hm⟩, ⟨i + 1, by rw [inc64 (by omega)], by omega, ?_, ?_⟩, by rw [inc64 (by omega)]; simp only [Int.toNat_natCast]; omega⟩⟩
    · rw [take_snoc hz', joinT_snoc d (by intro e; rcases List.take_eq_nil_iff.1 e with e | e; omega; exact h0 (by rw [e]; rfl))]
      exact hB6
    · exact (k4.fresh kb5 (fun j hj e => by omega)).fresh kb6 (fun j hj e => by omega)
  · have hi : i + 1 = l.length := by simp at hge; omega
    rw [hi, List.take_length] at hB4
    exact ⟨hB4.text.mono fun e w5 ⟨he, kb5⟩ => ⟨_, he, ⟨kb5.size, fun _ hm => by cases hm⟩, rfl, k4.fresh kb5 (fun j hj e => by omega)⟩⟩

/-! ### The reference -/
end Go.Proofs.YtgmmoghagpmpfaaGreatDoor

/- Chapter 27: operations on a table as they lie in the memory. No condition. -/
namespace Go.Proofs.YtgmmoghagpmpfaaGreatDoor
open Go.RowKit

/-- An operation on a table, and where its names lie. -/
structure OpY where
  k : Int
  gs : List ByteArray
  p : Option Addr
  c : Nat
  a : Int
instance : Inhabited OpY := ⟨⟨0, [], none, 0, 0⟩⟩
/-- What a reading of an operation gives. -/
structure OpR27 (W : World) (x : OpY) : Prop where
  str : StrP W x.p x.gs
  le : x.gs.length ≤ x.c
  hl : x.gs.length ≤ 4611686018427387904
  k : 0 ≤ x.k ∧ x.k ≤ 255
  a : -9223372036854775808 ≤ x.a ∧ x.a ≤ 9223372036854775807
theorem OpR27.k0 {w w' : World} {x : OpY} (h : OpR27 w x) (hk : K0 w w') : OpR27 w' x := ⟨h.str.k0 hk, h.le, h.hl, h.k, h.a⟩

end Go.Proofs.YtgmmoghagpmpfaaGreatDoor

/- Chapter 27: operations, numbers, texts as arguments, with their sizes. No condition. -/
namespace Go.Proofs.YtgmmoghagpmpfaaGreatDoor
open Go.ChangeShapes Go.WideShapes Go.ChangeAt Go.RowKit Go.Deep

theorem gw_of {w : World} (h : w.ShapedOpen Tryz.prog) : GW w := cell_of_shapedOpen_int (zero := #[.int .i64 0]) (t := 3) h (of_decide_eq_true (by kernel_rfl)) (by kernel_rfl) rfl (by kernel_rfl) (by kernel_rfl) Tryz.underlying3
theorem Rw.arr {H : Type} {enc : TypeId × Value → H} {P : Program} {W : World} {t : TypeId} {cs : List Value} {n : Nat} {e : TypeId} (h : Rw enc P W t cs) (ht : P.underlying t = some (.array n e)) {i : Nat} (hi : i < n) : Rw enc P W e ((cs.drop (i * P.cellsOf e)).take (P.cellsOf e)) := by
  obtain ⟨fuel, x, h, hw⟩ := h
  obtain ⟨xs, m, _, rfl, _, hxl, hg⟩ := DataW.trod_array ht h
  have hi' : i < xs.length := by omega
  refine ⟨m, xs[i], by rw [hg i hi, List.getElem?_eq_getElem hi'], fun k hk => hw k ?_⟩
  simp only [DataW.weights, ht]
  exact weightsAll_mem (List.mem_map.2 ⟨xs[i], List.getElem_mem hi', rfl⟩) k hk
section
variable {H : Type} {enc : TypeId × Value → H} {W : World} {base : Nat} {v : Value}
set_option maxRecDepth 100000 in
theorem openw_u8 (hv : Value.okWide Tryz.prog W .any base 5 v) (hr : Rw enc Tryz.prog W 5 v.cells.toList) : ∃ x : Int, v = .int .u8 x ∧ 0 ≤ x ∧ x ≤ 255 := by
  obtain ⟨x, rfl⟩ := okWide_int Tryz.underlying5 hv
  obtain ⟨y, h, hz⟩ := hr.int8 Tryz.underlying5
  have h : [Value.int .u8 x] = [.int .u8 y] := h
  simp only [List.cons.injEq, Value.int.injEq, and_true, true_and] at h
  subst h
  exact ⟨x, rfl, hz⟩
set_option maxRecDepth 100000 in
theorem openw_bool27 (hv : Value.okWide Tryz.prog W .any base 4 v) : ∃ b : Bool, v = .bool b := okWide_bool Tryz.underlying4 hv
end
theorem gt_of {l : List (String × DataW Unit)} {d : DataW Unit} {W : World} (h : laidMetH Tryz.prog l W) (hl : l.filter (fun x => x.1 == "internal/strconv.uint64pow10") = [("internal/strconv.uint64pow10", d)])
    (hd : d = Lib.tabData .u64 Lib.pow10Tab) : GT W := by
  have h1 := h.filter (fun x => x.1 == "internal/strconv.uint64pow10")
  rw [hl, hd] at h1
  have h2 := (laidMetH_iff.1 h1).1
  exact Lib.tabIs_of_head (rest := []) (g := 1) (t := 196) (e := 148) (n := 20) (by kernel_rfl) (by kernel_rfl) Tryz.underlying196 Tryz.underlying148 (by kernel_rfl) (by kernel_rfl) h2

end Go.Proofs.YtgmmoghagpmpfaaGreatDoor

/- delete of a map's entry, clear of a row's end, slices that are shorter. Generic: no program, no condition. -/
namespace Go.Proofs.YtgmmoghagpmpfaaGreatDoor
open Go.RowKit Go.Maps

section
variable {α : Type} {P : Program} {k t e : TypeId} {enc : α → Value} {w w1 : World} {b : Nat} {l : List (α × Value)}
variable [DecidableEq α]
variable (hinj : ∀ x y, enc x = enc y → x = y)
include hinj
end

/-! ### The end of a row is cleared -/
theorem putL_len : ∀ (vs c : List Value) (o : Nat), (putL c o vs).length = c.length
  | [], c, o => rfl
  | v :: r, c, o => by simp only [putL]; rw [putL_len r]; simp
end Go.Proofs.YtgmmoghagpmpfaaGreatDoor

/- Ranges over maps: an iterator's block, what is left, a step. Generic: no program, no condition. -/
namespace Go.Proofs.YtgmmoghagpmpfaaGreatDoor
open Go.RowKit Go.Maps

/-- How many entries are left. -/
def leftN (w : World) (r b : Nat) : Nat := match w.heap[r]?, w.heap[b]? with
  | some (.mapIter _ _ seen _), some (.map es _) => (leftOf es seen).size
  | _, _ => 0
/-- Block r holds an iterator over the map in block b; todo is left. -/
structure RngB {α : Type} (enc : α → Value) (w : World) (r b : Nat) (todo : List (α × Value)) : Prop where
  h : ∃ es clock since c0 seen, w.heap[b]? = some (.map es clock) ∧ w.heap[r]? = some (.mapIter (some b) since seen c0) ∧ (∀ x ∈ es.toList, x.born < since) ∧ since ≤ c0 ∧ since ≤ clock ∧ (es.toList.map (·.born)).Nodup ∧
    (leftOf es seen).toList.map (fun e => (e.key, e.val)) = todo.map (fun p => (enc p.1, p.2))
section
variable {α : Type} {P : Program} {k t e : TypeId} {enc : α → Value} {w w1 : World} {r b : Nat} {l todo : List (α × Value)}
theorem RngB.kp {M : Nat → Prop} {w' : World} (h : RngB enc w r b todo) (hk : Kp M w w') (hr : ¬ M r) (hb : ¬ M b) : RngB enc w' r b todo := by
  obtain ⟨es, cl, si, c0, se, h1, h2, h3⟩ := h.h
  exact ⟨es, cl, si, c0, se, hk.blk h1 hb, hk.blk h2 hr, h3⟩
theorem RngB.left (h : RngB enc w r b todo) : leftN w r b = todo.length := by
  obtain ⟨es, cl, si, c0, se, h1, h2, h3, h4, h5, h6, h7⟩ := h.h
  unfold leftN
  rw [h1, h2]
  have := congrArg List.length h7
  simpa using this
theorem MapB.range (h : MapB P k enc w b l) (ht : P.underlying t = some (.map k e)) : ∃ n w1, RngP P t (.map (some b)) n w w1 ∧ RngB enc w1 n b l ∧ K0 w w1 ∧ w.heap.size ≤ n ∧ n < w1.heap.size := by
  obtain ⟨es, c, hb, he⟩ := h.blk
  obtain ⟨h1, h2⟩ := h.brn es c hb
  have hk : K0 w (w.alloc (.mapIter (some b) c #[] c)) := ⟨rfl, rfl, rfl, by simp, fun i hi _ => Below.heap_alloc _ _ _ hi⟩
  refine ⟨w.heap.size, w.alloc (.mapIter (some b) c #[] c), ⟨run_range_map w t k e b es c ht hb⟩, ⟨es, c, c, c, #[], hk.blk hb (fun h => h), heap_alloc_new _ _, h2, Nat.le_refl _, Nat.le_refl _, h1, ?_⟩, hk, Nat.le_refl _, by simp⟩
  rw [← he]
  unfold leftOf
  rw [Array.filter_eq_self.2 (fun x _ => by simp)]
theorem left_erase {L : List MapEntry} (hn : (L.map (·.born)).Nodup) {j : Nat} {x : MapEntry} (hj : L[j]? = some x) : L.filter (fun y => !(y.born == x.born)) = L.eraseIdx j := by
  induction L generalizing j with
  | nil => simp at hj
  | cons y r ih =>
    have hn' : y.born ∉ r.map (·.born) ∧ (r.map (·.born)).Nodup := List.nodup_cons.1 hn
    cases j with
    | zero =>
      have e : y = x := by simpa using hj
      subst e
      rw [List.filter_cons, if_neg (by simp), List.eraseIdx_cons_zero]
      refine List.filter_eq_self.2 fun z hz => ?_
      have : z.born ≠ y.born := fun e => hn'.1 (by rw [← e]; exact List.mem_map.2 ⟨z, hz, rfl⟩)
      simpa using this
    | succ j =>
      have hj' : r[j]? = some x := by simpa using hj
      have : y.born ≠ x.born := fun e => hn'.1 (by rw [e]; exact List.mem_map.2 ⟨x, List.mem_of_getElem? hj', rfl⟩)
      rw [List.filter_cons, if_pos (by simpa using this), List.eraseIdx_cons_succ, ih hn'.2 hj']
theorem map_erase' {β γ : Type} (f : β → γ) : ∀ (L : List β) (j : Nat), (L.eraseIdx j).map f = (L.map f).eraseIdx j
  | [], _ => by simp
  | _ :: _, 0 => rfl
  | x :: L, j + 1 => by simp [List.eraseIdx_cons_succ, map_erase' f L j]
theorem sb_same {w : World} {r : Nat} {x : Obj} (h : w.heap[r]? = some x) (o : Obj) : (ChangeMaps.setBlock w r o).heap[r]? = some o := by
  have hlt : r < w.heap.size := by
    rcases Nat.lt_or_ge r w.heap.size with h' | h'
    · exact h'
    · rw [Array.getElem?_eq_none h'] at h; cases h
  simp [ChangeMaps.setBlock, hlt]
theorem sb_other (w : World) (r : Nat) (o : Obj) {i : Nat} (h : i ≠ r) : (ChangeMaps.setBlock w r o).heap[i]? = w.heap[i]? := by
  simp [ChangeMaps.setBlock, Ne.symm h]
/-- A step. -/
theorem RngB.next (h : RngB enc w r b todo) :
    (todo = [] ∧ NxtP P (.pointer (some ⟨r, 0, none⟩)) false [] w w) ∨
    ∃ (j : Nat) (p : α × Value) (w1 : World), todo[j]? = some p ∧ NxtP P (.pointer (some ⟨r, 0, none⟩)) true [enc p.1, p.2] w w1 ∧ EntP P (.pointer (some ⟨r, 0, none⟩)) (.tuple #[enc p.1, p.2]) w1 ∧ RngB enc w1 r b (todo.eraseIdx j) ∧ Kp (· = r) w w1 := by
  obtain ⟨es, cl, si, c0, se, h1, h2, h3, h4, h5, h6, h7⟩ := h.h
  have hlen := congrArg List.length h7
  simp only [List.length_map] at hlen
  rcases run_next_at (P := P) w 0 r b si c0 se es cl h2 h1 h3 h4 with ⟨h8, _⟩ | ⟨x, hx, w1, hw1, hrun⟩
  · refine .inl ⟨List.eq_nil_of_length_eq_zero (by rw [← hlen]; simpa using h8), ⟨fun ty => ?_⟩⟩
    rcases run_next_at (P := P) w ty r b si c0 se es cl h2 h1 h3 h4 with ⟨_, h9⟩ | ⟨x, hx, _⟩
    · exact h9
    · have : leftOf es se = #[] := Array.eq_empty_of_size_eq_zero h8
      rw [this] at hx; simp at hx
  · obtain ⟨j, hj, hjx⟩ := List.getElem_of_mem hx
    have hjx' : (leftOf es se).toList[j]? = some x := by rw [List.getElem?_eq_getElem hj, hjx]
    have hp : (todo.map (fun p => (enc p.1, p.2)))[j]? = some (x.key, x.val) := by rw [← h7, List.getElem?_map, hjx']; rfl
    rw [List.getElem?_map, Option.map_eq_some_iff] at hp
    obtain ⟨p, hp, hpe⟩ := hp
    simp only [Prod.mk.injEq] at hpe
    have hkw : Kp (· = r) w (ChangeMaps.setBlock w1 r (.mapIter (some b) si (se.push x.born) cl)) := by
      have hw : Kp (· = r) w w1 := by
        rcases hw1 with rfl | rfl
        · exact .refl _ _
        · exact ⟨rfl, rfl, rfl, Nat.le_refl _, fun _ _ _ => rfl⟩
      have hr1 : w1.heap[r]? = some (.mapIter (some b) si se c0) := by rcases hw1 with rfl | rfl <;> exact h2
      exact hw.trans ⟨rfl, rfl, rfl, by simp [ChangeMaps.setBlock], fun i _ hi => sb_other _ _ _ hi⟩
    have hrb : b ≠ r := fun e => by rw [e, h2] at h1; cases h1
    have hr1 : w1.heap[r]? = some (.mapIter (some b) si se c0) := by rcases hw1 with rfl | rfl <;> exact h2
    have hb1 := hkw.blk h1 hrb
    have hr2 : (ChangeMaps.setBlock w1 r (.mapIter (some b) si (se.push x.born) cl)).heap[r]? = some (.mapIter (some b) si (se.push x.born) cl) := sb_same hr1 _
    refine .inr ⟨j, p, _, hp, ⟨fun ty => ?_⟩, ⟨?_⟩, ⟨es, cl, si, cl, se.push x.born, hb1, hr2, h3, h5, h5, h6, ?_⟩, hkw⟩
    · rw [hpe.1, hpe.2]; exact hrun
    · rw [hpe.1, hpe.2]; exact run_entry_at _ r b si se es cl x hr2 hb1 (mem_left hx).1 h6
    · rw [map_erase', ← h7, ← map_erase']
      congr 1
      have hL : ((leftOf es se).toList.map (·.born)).Nodup := by
        unfold leftOf
        rw [Array.toList_filter]
        exact h6.sublist (List.filter_sublist.map _)
      rw [← left_erase hL hjx']
      unfold leftOf
      rw [Array.toList_filter, Array.toList_filter, List.filter_filter]
      refine List.filter_congr fun y _ => ?_
      rw [contains_push]
      cases se.contains y.born <;> simp
end

end Go.Proofs.YtgmmoghagpmpfaaGreatDoor

/- Chapter 27: the module's table in the memory: looked up, written. Names are not too long. -/
namespace Go.Proofs.YtgmmoghagpmpfaaGreatDoor
open Go.RowKit Go.Maps Go.Sort

/-- A group and where its row lies. -/
structure Gx where
  v : Gv
  p : Option Addr
  c : Nat
abbrev gxV (x : Gx) : Value := .agg #[.int .i64 x.v.h, .bool x.v.c, .slice x.p x.v.l.length x.c]
def ivC (x : Iv) : List Value := [.int .i64 x.a, .int .i64 x.b]
theorem ivC_length (x : Iv) : (ivC x).length = 2 := rfl
abbrev TM := List (ByteArray × Gx)
def Gx.blk (x : Gx) : Option Nat := (Value.slice x.p x.v.l.length x.c).ownBlock
/-- The row of a group is the program's own. -/
def Gx.own (w : World) (B : Nat) (x : Gx) : Prop := w.ownsRow B 105 2 (.slice x.p x.v.l.length x.c) x.v.l.length (x.v.l.flatMap ivC)
def gxz : Gx := ⟨⟨0, false, []⟩, none, 0⟩
theorem Gx.own_z (w : World) (B : Nat) (h : Int) (c : Bool) : Gx.own w B ⟨⟨h, c, []⟩, none, 0⟩ := World.ownsRow_nil _ _ _ _
theorem Gx.own.kp {w w' : World} {B : Nat} {x : Gx} {M : Nat → Prop} (h : x.own w B) (hk : Kp M w w') (hm : ∀ k, x.blk = some k → ¬ M k) : x.own w' B := owns_kp h hk hm
theorem Gx.own.ty {w : World} {B : Nat} {x : Gx} (h : x.own w B) {k : Nat} (hk : x.blk = some k) : ∃ c, w.heap[k]? = some (.cells c 105 (0, 0)) := own_type h hk
theorem Gx.own.row {w : World} {B : Nat} {x : Gx} (h : x.own w B) : RowA ivC 2 w x.p x.v.l := RowA.own h ivC_length (by decide)
theorem stInj27 (x y : ByteArray) (h : Value.string x = Value.string y) : x = y := by cases h; rfl
theorem stKeyed27 : Keyed Tryz.prog 9 := string_keyed Tryz.underlying9
theorem stKey27 {s : ByteArray} (h : s.size ≤ 1073741824) : ∃ kl, keyOf Tryz.prog 9 (.string s) = some kl := ⟨_, WideMaps.keyOf_string_mk Tryz.underlying9 (by unfold maxLen; omega)⟩
theorem zeroGr (w : World) : (zeroValue 94).run Tryz.prog w = .ok (gxV gxz) w := by kernel_rfl
theorem dis_amap {α β γ : Type} {f : β → γ} {l : List (α × β)} : ((amap f l).Pairwise fun p q => p.1 ≠ q.1) ↔ l.Pairwise fun p q => p.1 ≠ q.1 := by
  unfold amap
  rw [List.pairwise_map]
/-- The blocks of a table that operations write. -/
def Tb (mb : Nat) (m : TM) (k : Nat) : Prop := k = mb ∨ ∃ g x, aget m g = some x ∧ x.blk = some k
/-- A table in block b, its map in block mb; the group g may be astray. -/
structure Tz (w : World) (B b mb : Nat) (m : TM) (E : ByteArray → Prop) : Prop where
  st : w.heap[b]? = some (.cells #[.map (some mb)] 99 (0, 0))
  mm : MapB Tryz.prog 9 Value.string w mb (amap gxV m)
  own : ∀ g x, aget m g = some x → ¬ E g → x.own w B
  sep : ∀ g x h y k, aget m g = some x → aget m h = some y → x.blk = some k → y.blk = some k → g = h
  nm : ∀ g x k, aget m g = some x → x.blk = some k → k ≠ mb ∧ k ≠ b ∧ B ≤ k ∧ k < w.heap.size
  gb : B ≤ b
  gm : B ≤ mb
  gz : 0 < B
structure Tq (w : World) (B b mb : Nat) (m : TM) (A : TA) : Prop where
  z : Tz w B b mb m (fun _ => False)
  prm : (amap Gx.v m).Perm A
  wf : WF A
  len : A.length ≤ 4096
section
variable {w w' : World} {B b mb : Nat} {m : TM} {A : TA} {E : ByteArray → Prop}
theorem Tz.dis (h : Tz w B b mb m E) : m.Pairwise fun p q => p.1 ≠ q.1 := dis_amap.1 h.mm.dis
theorem Tz.bm (h : Tz w B b mb m E) : b ≠ mb := fun e => by
  obtain ⟨es, c, hb, _⟩ := h.mm.blk
  have := h.st
  rw [e, hb] at this; cases this
theorem Tz.tb (h : Tz w B b mb m E) {k : Nat} (hk : Tb mb m k) : B ≤ k ∧ k < w.heap.size ∧ k ≠ b := by
  rcases hk with rfl | ⟨g, x, hx, hk⟩
  · exact ⟨h.gm, h.mm.lt, fun e => h.bm e.symm⟩
  · obtain ⟨_, h2, h3, h4⟩ := h.nm g x k hx hk
    exact ⟨h3, h4, h2⟩
theorem Tz.kp {M : Nat → Prop} (h : Tz w B b mb m E) (hk : Kp M w w') (hb : ¬ M b) (hm : ∀ k, Tb mb m k → ¬ M k) : Tz w' B b mb m E :=
  ⟨hk.blk h.st hb, h.mm.kp hk (hm mb (.inl rfl)), fun g x hx hE => (h.own g x hx hE).kp hk (fun k e => hm k (.inr ⟨g, x, hx, e⟩)), h.sep, fun g x k hx e => by
    obtain ⟨h1, h2, h3, h4⟩ := h.nm g x k hx e
    have := hk.size
    exact ⟨h1, h2, h3, by omega⟩, h.gb, h.gm, h.gz⟩
theorem Tz.k0 (h : Tz w B b mb m E) (hk : K0 w w') : Tz w' B b mb m E := h.kp hk (fun h => h) (fun _ _ h => h)
/-- The row of the group g is written, or a new one is made. -/
theorem Tz.kpx {M : Nat → Prop} (h : Tz w B b mb m E) (hk : Kp M w w') (hb : ¬ M b) (hm : ¬ M mb) {g0 : ByteArray} (hr : ∀ g x k, aget m g = some x → g ≠ g0 → x.blk = some k → ¬ M k) : Tz w' B b mb m (fun g => E g ∨ g = g0) :=
  ⟨hk.blk h.st hb, h.mm.kp hk hm, fun g x hx hE => (h.own g x hx (fun e => hE (.inl e))).kp hk (fun k e => hr g x k hx (fun e => hE (.inr e)) e), h.sep, fun g x k hx e => by
    obtain ⟨h1, h2, h3, h4⟩ := h.nm g x k hx e
    have := hk.size
    exact ⟨h1, h2, h3, by omega⟩, h.gb, h.gm, h.gz⟩
theorem Tz.cM (h : Tz w B b mb m E) : w.cell? ⟨b, 0, none⟩ = some (.map (some mb)) := cell_at h.st rfl
theorem Tz.look1 (h : Tz w B b mb m E) {g : ByteArray} (hg : g.size ≤ 1073741824) : LookP Tryz.prog 97 (.map (some mb)) (.string g) true (.tuple #[gxV ((aget m g).getD gxz), .bool (aget m g).isSome]) w := by
  obtain ⟨kl, hkl⟩ := stKey27 hg
  have := MapB.look stInj27 h.mm stKeyed27 Tryz.underlying97 (zeroGr w) hkl true
  rw [aget_amap] at this
  cases hgt : aget m g with
  | none => rw [hgt] at this; exact this
  | some x => rw [hgt] at this; exact this
theorem Tz.look0 (h : Tz w B b mb m E) {g : ByteArray} (hg : g.size ≤ 1073741824) : LookP Tryz.prog 97 (.map (some mb)) (.string g) false (gxV ((aget m g).getD gxz)) w := by
  obtain ⟨kl, hkl⟩ := stKey27 hg
  have := MapB.look stInj27 h.mm stKeyed27 Tryz.underlying97 (zeroGr w) hkl false
  rw [aget_amap] at this
  cases hgt : aget m g with
  | none => rw [hgt] at this; exact this
  | some x => rw [hgt] at this; exact this
/-- A group is written: its row is the program's own and lies apart. -/
theorem Tz.upd {g : ByteArray} (h : Tz w B b mb m (fun z => z = g)) (x : Gx) (hg : g.size ≤ 1073741824) (ho : x.own w B) (hb : ∀ k, x.blk = some k → k ≠ mb ∧ k ≠ b ∧ k < w.heap.size) (hs : ∀ g' y k, aget m g' = some y → g' ≠ g → x.blk = some k → ¬ y.blk = some k) :
    ∃ w1, UpdP Tryz.prog 97 (.map (some mb)) (.string g) (gxV x) w w1 ∧ Tz w1 B b mb (aset m g x) (fun _ => False) ∧ Kp (· = mb) w w1 := by
  obtain ⟨kl, hkl⟩ := stKey27 hg
  obtain ⟨w1, hu, hm, hk⟩ := MapB.upd stInj27 h.mm stKeyed27 Tryz.underlying97 hkl (gxV x)
  rw [aset_amap] at hm
  refine ⟨w1, hu, ⟨hk.blk h.st h.bm, hm, fun g' y hy _ => ?_, fun g1 x1 g2 x2 k h1 h2 e1 e2 => ?_, fun g' y k hy e => ?_, h.gb, h.gm, h.gz⟩, hk⟩
  · rw [aget_aset] at hy
    split at hy
    · cases hy; exact ho.kp hk (fun k e e2 => (hb k e).1 e2)
    · rename_i hne
      exact (h.own g' y hy (fun e => hne e.symm)).kp hk (fun k e e2 => (h.nm g' y k hy e).1 e2)
  · rw [aget_aset] at h1 h2
    split at h1 <;> split at h2
    · rename_i a1 a2; rw [← a1, ← a2]
    · rename_i a1 a2
      cases h1
      exact absurd e2 (hs g2 x2 k h2 (fun e => a2 e.symm) e1)
    · rename_i a1 a2
      cases h2
      exact absurd e1 (hs g1 x1 k h1 (fun e => a1 e.symm) e2)
    · exact h.sep g1 x1 g2 x2 k h1 h2 e1 e2
  · rw [aget_aset] at hy
    have := hk.size
    split at hy
    · cases hy
      obtain ⟨b1, b2, b3⟩ := hb k e
      exact ⟨b1, b2, own_ge ho e, by omega⟩
    · obtain ⟨b1, b2, b3, b4⟩ := h.nm g' y k hy e
      exact ⟨b1, b2, b3, by omega⟩
theorem Tz.weak {E' : ByteArray → Prop} (h : Tz w B b mb m E) (he : ∀ g, E g → E' g) : Tz w B b mb m E' := ⟨h.st, h.mm, fun g x hx hE => h.own g x hx (fun e => hE (he g e)), h.sep, h.nm, h.gb, h.gm, h.gz⟩
theorem Tq.k0 (h : Tq w B b mb m A) (hk : K0 w w') : Tq w' B b mb m A := ⟨h.z.k0 hk, h.prm, h.wf, h.len⟩
theorem Tq.kp {M : Nat → Prop} (h : Tq w B b mb m A) (hk : Kp M w w') (hb : ¬ M b) (hm : ∀ k, Tb mb m k → ¬ M k) : Tq w' B b mb m A := ⟨h.z.kp hk hb hm, h.prm, h.wf, h.len⟩
/-- What the table says of a name. -/
theorem Tq.get (h : Tq w B b mb m A) (g : ByteArray) : aget A g = (aget m g).map Gx.v := by
  rw [← aget_amap Gx.v m g, aget_perm h.prm (dis_amap.2 h.z.dis)]
theorem Tq.getN (h : Tq w B b mb m A) {g : ByteArray} (hg : aget m g = none) : aget A g = none := by rw [h.get, hg]; rfl
theorem Tq.getS (h : Tq w B b mb m A) {g : ByteArray} {x : Gx} (hg : aget m g = some x) : aget A g = some x.v := by rw [h.get, hg]; rfl
theorem Tq.length (h : Tq w B b mb m A) : m.length = A.length := by rw [← h.prm.length_eq]; simp [amap]
/-- The table behind an operation. -/
structure Ts (w w' : World) (B b mb : Nat) (m : TM) (A' : TA) (m' : TM) : Prop where
  t : Tq w' B b mb m' A'
  k : Kp (Tb mb m) w w'
  f : ∀ k, Tb mb m' k → Tb mb m k ∨ w.heap.size ≤ k
theorem Tq.same (h : Tq w B b mb m A) (hk : K0 w w') : Ts w w' B b mb m A m := ⟨h.k0 hk, hk.mono fun _ _ e => e.elim, fun _ hk => .inl hk⟩
theorem aset_perm27 {x : Gx} {g : ByteArray} (h : Tq w B b mb m A) : (amap Gx.v (aset m g x)).Perm (aset A g x.v) := by
  rw [← aset_amap]
  exact aset_perm h.prm (dis_amap.2 h.z.dis) g x.v
theorem ins_perm27 {x : Gx} {g : ByteArray} (h : Tq w B b mb m A) (hg : aget m g = none) : (amap Gx.v (aset m g x)).Perm (insA gnC A g x.v) := by
  rw [← aset_amap]
  exact ins_perm h.prm (by rw [aget_amap, hg]; rfl)
theorem aset_same_len {β : Type} {l : List (ByteArray × β)} {g : ByteArray} {u v : β} (h : aget l g = some u) : (aset l g v).length = l.length := by
  induction l with
  | nil => cases h
  | cons p r ih =>
    obtain ⟨a, y⟩ := p
    unfold aget at h
    unfold aset
    split
    · rfl
    · rename_i hne
      rw [if_neg hne] at h
      simp [ih h]
/-- A group is written whose row is the one that it had (perhaps written meanwhile), or a new one. -/
theorem Tz.put {w0 w : World} (h : Tz w0 B b mb m (fun _ => False)) {g : ByteArray} {x : Gx} (O : Option Nat) (hO : ∀ k, O = some k → ∃ x0, aget m g = some x0 ∧ x0.blk = some k) (hk : Kp (fun k => O = some k) w0 w) (hg : g.size ≤ 1073741824) (ho : x.own w B)
    (hn : ∀ k, x.blk = some k → O = some k ∨ w0.heap.size ≤ k) :
    ∃ w1, UpdP Tryz.prog 97 (.map (some mb)) (.string g) (gxV x) w w1 ∧ Tz w1 B b mb (aset m g x) (fun _ => False) ∧ Kp (Tb mb m) w0 w1 ∧ (∀ k, Tb mb (aset m g x) k → Tb mb m k ∨ w0.heap.size ≤ k) ∧ Kp (· = mb) w w1 := by
  have hO2 : ∀ k, O = some k → Tb mb m k := fun k e => by obtain ⟨x0, h1, h2⟩ := hO k e; exact .inr ⟨g, x0, h1, h2⟩
  have hOn : ∀ k, O = some k → k ≠ mb ∧ k ≠ b ∧ k < w0.heap.size := fun k e => by
    obtain ⟨x0, h1, h2⟩ := hO k e
    obtain ⟨a1, a2, a3, a4⟩ := h.nm g x0 k h1 h2
    exact ⟨a1, a2, a4⟩
  have bb := block_lt h.st
  have bm := h.mm.lt
  have hz : Tz w B b mb m (fun z => z = g) := (h.kpx hk (fun e => (hOn b e).2.1 rfl) (fun e => (hOn mb e).1 rfl) (g0 := g) (fun g' y k hy hne e e2 => by
    obtain ⟨x0, h1, h2⟩ := hO k e2
    exact hne (h.sep g' y g x0 k hy h1 e h2))).weak (fun z e => by rcases e with e | e; exact e.elim; exact e)
  obtain ⟨w1, hu, h1, k1⟩ := hz.upd x hg ho (fun k e => by
    have hl := own_lt ho e
    rcases hn k e with e2 | e2
    · obtain ⟨a1, a2, _⟩ := hOn k e2
      exact ⟨a1, a2, hl⟩
    · exact ⟨by omega, by omega, hl⟩) (fun g' y k hy hne e e2 => by
    rcases hn k e with e3 | e3
    · obtain ⟨x0, h1, h2⟩ := hO k e3
      exact hne (h.sep g' y g x0 k hy h1 e2 h2)
    · have := (h.nm g' y k hy e2).2.2.2
      omega)
  refine ⟨w1, hu, h1, (hk.mono fun k _ e => hO2 k e).trans (k1.mono fun k _ e => .inl e), fun k hk => ?_, k1⟩
  rcases hk with e | ⟨g', y, hy, e⟩
  · exact .inl (.inl e)
  · rw [aget_aset] at hy
    split at hy
    · cases hy
      rcases hn k e with e3 | e3
      · exact .inl (hO2 k e3)
      · exact .inr e3
    · exact .inl (.inr ⟨g', y, hy, e⟩)
theorem Ts.put {w0 w : World} (h : Tq w0 B b mb m A) {g : ByteArray} {x0 x : Gx} (hx : aget m g = some x0) (hk : Kp (fun k => x0.blk = some k) w0 w) (hg : g.size ≤ 1073741824) (ho : x.own w B)
    (hn : ∀ k, x.blk = some k → x0.blk = some k ∨ w0.heap.size ≤ k) (hA : WF (aset A g x.v)) :
    ∃ w1, UpdP Tryz.prog 97 (.map (some mb)) (.string g) (gxV x) w w1 ∧ Ts w0 w1 B b mb m (aset A g x.v) (aset m g x) ∧ Kp (· = mb) w w1 := by
  obtain ⟨w1, hu, h1, k1, hf, k2⟩ := h.z.put (g := g) (x := x) x0.blk (fun k e => ⟨x0, hx, e⟩) hk hg ho hn
  exact ⟨w1, hu, ⟨⟨h1, aset_perm27 h, hA, by rw [aset_same_len (h.getS hx)]; exact h.len⟩, k1, hf⟩, k2⟩
theorem Ts.ins {w0 w : World} (h : Tq w0 B b mb m A) {g : ByteArray} {x : Gx} (hx : aget m g = none) (hk : K0 w0 w) (hg : g.size ≤ 1073741824) (ho : x.own w B)
    (hn : ∀ k, x.blk = some k → w0.heap.size ≤ k) (hA : WF (insA gnC A g x.v)) (hl : A.length < 4096) :
    ∃ w1, UpdP Tryz.prog 97 (.map (some mb)) (.string g) (gxV x) w w1 ∧ Ts w0 w1 B b mb m (insA gnC A g x.v) (aset m g x) ∧ Kp (· = mb) w w1 := by
  obtain ⟨w1, hu, h1, k1, hf, k2⟩ := h.z.put (g := g) (x := x) none (fun k e => by cases e) (hk.mono fun _ _ e => e.elim) hg ho (fun k e => .inr (hn k e))
  refine ⟨w1, hu, ⟨⟨h1, ins_perm27 h hx, hA, ?_⟩, k1, hf⟩, k2⟩
  rw [(insA_perm A g x.v).length_eq]
  simp
  omega
/-- Blocks of the function's own are kept where the map is written. -/
theorem Tz.keptL {w0 W w2 : World} (h : Tz w0 B b mb m E) (hk : Kp (· = mb) W w2) {ns : List Nat} (hn : ∀ n ∈ ns, w0.heap.size ≤ n) : KeptL ns W w2 := .of_kp hk fun n hin e => by
  have := h.mm.lt
  have := hn n hin
  omega
/-- Two steps. -/
theorem Ts.trans {w1 w2 : World} {m1 m2 : TM} {A1 A2 : TA} (h : Ts w w1 B b mb m A1 m1) (k : Ts w1 w2 B b mb m1 A2 m2) : Ts w w2 B b mb m A2 m2 := by
  refine ⟨k.t, h.k.fresh k.k (fun i hi e => ?_), fun i hi => ?_⟩
  · rcases h.f i e with e | e
    · exact e
    · omega
  · have := h.k.size
    rcases k.f i hi with e | e
    · exact h.f i e
    · exact .inr (by omega)
/-- Blocks of the function's own are written behind it. -/
theorem Ts.kpf {w1 w2 : World} {m1 : TM} {A1 : TA} {M : Nat → Prop} (h : Ts w w1 B b mb m A1 m1) (hk : Kp M w1 w2) (hM : ∀ k, M k → w.heap.size ≤ k) (hb : ¬ M b) (hm : ∀ k, Tb mb m1 k → ¬ M k) : Ts w w2 B b mb m A1 m1 :=
  ⟨h.t.kp hk hb hm, h.k.fresh hk (fun i hi e => by have := hM i e; omega), h.f⟩
theorem Ts.k0 {w1 w2 : World} {m1 : TM} {A1 : TA} (h : Ts w w1 B b mb m A1 m1) (hk : K0 w1 w2) : Ts w w2 B b mb m A1 m1 := h.kpf hk (fun _ e => e.elim) (fun h => h) (fun _ _ h => h)
/-- Before the table was made, nothing is written. -/
theorem Ts.base {w0 w : World} {m1 : TM} {A1 : TA} (h : Ts w w' B b mb m A1 m1) (hz : Tz w B b mb m E) (k : K0 w0 w) (hB : w0.heap.size ≤ B) : K0 w0 w' := k.fresh h.k (fun i hi e => by have := (hz.tb e).1; omega)
end

end Go.Proofs.YtgmmoghagpmpfaaGreatDoor

/- Rows that a slice owns: an element is written. Generic: no program, no condition. -/
namespace Go.Proofs.YtgmmoghagpmpfaaGreatDoor
open Go.RowKit Go.Maps

theorem putL_get : ∀ (vs c : List Value) (o j : Nat), o + vs.length ≤ c.length → (putL c o vs)[j]? = if o ≤ j ∧ j < o + vs.length then vs[j - o]? else c[j]?
  | [], c, o, j, _ => by
    rw [if_neg (by simp only [List.length_nil]; omega)]; rfl
  | v :: r, c, o, j, h => by
    simp only [putL]
    rw [putL_get r (c.set o v) (o + 1) j (by simp at h ⊢; omega)]
    by_cases h1 : o + 1 ≤ j ∧ j < o + 1 + r.length
    · rw [if_pos h1, if_pos (by simp; omega), show j - o = (j - (o + 1)) + 1 by omega]; rfl
    · rw [if_neg h1, List.getElem?_set]
      by_cases h2 : o = j
      · subst h2
        have h3 : o < c.length := by rw [List.length_cons] at h; omega
        rw [if_pos rfl, if_pos h3, if_pos (by rw [List.length_cons]; omega), Nat.sub_self]
        rfl
      · rw [if_neg h2, if_neg (by rw [List.length_cons]; omega)]
end Go.Proofs.YtgmmoghagpmpfaaGreatDoor

/- Rows that a slice owns: a part of an element is written, elements are appended; rows as sources. Generic: no program, no condition. -/
namespace Go.Proofs.YtgmmoghagpmpfaaGreatDoor
open Go.RowKit Go.Maps

/-- A part of an element of an own row is written. -/
theorem own_part {α : Type} {f : α → List Value} {L : Nat} {w w1 : World} {base n c g k j : Nat} {e : TypeId} {l : List α} {y y' : α} {vs : List Value} (h : w.ownsRow base e L (.slice (some ⟨g, 0, none⟩) n c) n (l.flatMap f)) (hn : n = l.length) (hl : ∀ y, (f y).length = L) (h0 : 0 < L) (hk : l[k]? = some y) (hj : j + vs.length ≤ L) (hy : f y' = putL (f y) j vs) (hp : PutB w g (0 + k * L + j) vs w1) :
    w1.ownsRow base e L (.slice (some ⟨g, 0, none⟩) n c) n ((l.set k y').flatMap f) := by
  subst hn
  have hkl : k < l.length := (List.getElem?_eq_some_iff.1 hk).1
  have hlen := h.1
  rcases h.2 with ⟨hv, _⟩ | ⟨g', cap, cur, hv, hb, hg, h4, h5, h6, h7⟩
  · simp at hv
  simp only [Value.slice.injEq, true_and, Option.some.injEq, Addr.mk.injEq, and_true] at hv
  obtain ⟨rfl, rfl⟩ := hv
  have hm : (k + 1) * L ≤ l.length * L := Nat.mul_le_mul_right _ hkl
  have hm2 : l.length * L ≤ c * L := Nat.mul_le_mul_right _ h4
  rw [Nat.succ_mul] at hm
  have hfl : ((l.set k y').flatMap f).length = l.length * L := by rw [len_flat f L _ (fun z _ => hl z), List.length_set]
  refine ⟨hfl, .inr ⟨g, c, _, rfl, hb, hp.block hg, h4, h5, by simp [putL_len, h6], ?_⟩⟩
  show (putL cur.toList (0 + k * L + j) vs).take (l.length * L) = _
  apply List.ext_getElem?
  intro t
  rw [List.getElem?_take]
  rcases Nat.lt_or_ge t (l.length * L) with ht | ht
  · rw [if_pos ht, putL_get _ _ _ _ (by simp [h6]; omega)]
    have hdiv : t / L < l.length := Nat.div_lt_of_lt_mul (by rw [Nat.mul_comm]; exact ht)
    have hmod : t % L < L := Nat.mod_lt _ h0
    have hj2 : t / L * L + t % L = t := by rw [Nat.mul_comm]; exact Nat.div_add_mod t L
    obtain ⟨z, hz⟩ : ∃ z, l[t / L]? = some z := ⟨_, List.getElem?_eq_getElem hdiv⟩
    have h2 := flat_get f L l (t / L) z (t % L) (fun z _ => hl z) hz hmod
    rw [hj2] at h2
    have hcur : cur.toList[t]? = (f z)[t % L]? := by rw [← h2, ← h7, List.getElem?_take, if_pos ht]
    by_cases hk1 : t / L = k
    · subst hk1
      rw [hk] at hz
      cases hz
      have h1 := flat_get f L (l.set (t / L) y') (t / L) y' (t % L) (fun z _ => hl z) (by rw [List.getElem?_set]; simp [hkl]) hmod
      rw [hj2] at h1
      rw [h1, hy, putL_get _ _ _ _ (by rw [hl y]; exact hj), hcur]
      by_cases hin : j ≤ t % L ∧ t % L < j + vs.length
      · rw [if_pos hin, if_pos (by omega)]
        congr 1
        omega
      · rw [if_neg hin, if_neg (by omega)]
    · have hnin : ¬ (0 + k * L + j ≤ t ∧ t < 0 + k * L + j + vs.length) := by
        intro ⟨h3, h4⟩
        apply hk1
        have h5 : k ≤ t / L := (Nat.le_div_iff_mul_le h0).2 (by omega)
        have h6 : t / L < k + 1 := (Nat.div_lt_iff_lt_mul h0).2 (by rw [Nat.succ_mul]; omega)
        omega
      have h1 := flat_get f L (l.set k y') (t / L) z (t % L) (fun z _ => hl z) (by rw [List.getElem?_set, if_neg (fun e => hk1 e.symm)]; exact hz) hmod
      rw [hj2] at h1
      rw [if_neg hnin, h1, hcur]
  · rw [if_neg (by omega), List.getElem?_eq_none (by omega)]
/-- A place in an own row. -/
theorem own_wrc {w : World} {base n c L k j : Nat} {p : Option Addr} {e : TypeId} {xs : List Value} (h : w.ownsRow base e L (.slice p n c) n xs) (hk : k < n) (hj : j < L) : ∃ g, p = some ⟨g, 0, none⟩ ∧ (∃ u, w.cell? ⟨g, 0 + k * L + j, none⟩ = some u) ∧ w.frozen? ⟨g, 0 + k * L + j, none⟩ = false := by
  rcases h.2 with ⟨_, h0⟩ | ⟨g, cap, cur, hv, hb, hg, h4, h5, h6, h7⟩
  · omega
  simp only [Value.slice.injEq, true_and] at hv
  obtain ⟨rfl, rfl⟩ := hv
  have hm : (k + 1) * L ≤ n * L := Nat.mul_le_mul_right _ hk
  have hm2 : n * L ≤ c * L := Nat.mul_le_mul_right _ h4
  rw [Nat.succ_mul] at hm
  exact ⟨g, rfl, cell_wr hg (by omega)⟩
/-- A row lies in a block of the type t. -/
def TyN (t : TypeId) (w : World) (p : Option Addr) : Prop := ∀ g o, p = some ⟨g, o, none⟩ → ∃ c f, w.heap[g]? = some (.cells c t f)
section
variable {t : TypeId} {w w' : World} {p : Option Addr}
theorem TyN.kp {M : Nat → Prop} (h : TyN t w p) (hk : Kp M w w') (hm : ∀ k c f, w.heap[k]? = some (.cells c t f) → ¬ M k) : TyN t w' p := fun g o e => by
  obtain ⟨c, f, hc⟩ := h g o e
  exact ⟨c, f, hk.blk hc (hm g c f hc)⟩
theorem TyN.k0 (h : TyN t w p) (hk : K0 w w') : TyN t w' p := h.kp hk (fun _ _ _ _ h => h)
theorem TyN.own {base L n c : Nat} {xs : List Value} (h : w.ownsRow base t L (.slice p n c) n xs) : TyN t w p := fun g o e => by
  subst e
  obtain ⟨c, hc⟩ := own_type h (k := g) rfl
  exact ⟨c, _, hc⟩
theorem TyN.none : TyN t w none := fun _ _ h => by cases h
theorem RowA.kpT {α : Type} {f : α → List Value} {L : Nat} {l : List α} {M : Nat → Prop} (h : RowA f L w p l) (ht : TyN t w p) (hk : Kp M w w') (hm : ∀ k c f, w.heap[k]? = some (.cells c t f) → ¬ M k) : RowA f L w' p l := fun k y hy => by
  obtain ⟨b, o, h1, h2⟩ := h k y hy
  obtain ⟨c, f, hc⟩ := ht b o h1
  exact ⟨b, o, h1, ⟨At_of _ _ fun j u hu => hk.cell' (h2.cell hu) (hm b c f hc)⟩⟩
end

end Go.Proofs.YtgmmoghagpmpfaaGreatDoor

/- Chapter 27: the reference's table in the memory. No condition. -/
namespace Go.Proofs.YtgmmoghagpmpfaaGreatDoor
open Go.RowKit Go.Maps Go.Sort

/-- A group of the reference and where its numbers lie. -/
structure Rx where
  s : ByteArray
  v : Gv
  q : Option Addr
  d : Nat
def Rx.pr (x : Rx) : ByteArray × Gv := (x.s, x.v)
abbrev rxC (x : Rx) : List Value := [.string x.s, .int .i64 x.v.h, .slice x.q (exI x.v.l).length x.d, .bool x.v.c]
def inC (n : Int) : List Value := [.int .i64 n]
theorem inC_length (n : Int) : (inC n).length = 1 := rfl
/-- Numbers that lie one behind the other. -/
structure RowN (w : World) (q : Option Addr) (l : List Int) (d : Nat) : Prop where
  row : RowA inC 1 w q l
  ty : TyN 3 w q
  le : l.length ≤ d
structure RowT (w : World) (p : Option Addr) (R : List Rx) (A : TA) : Prop where
  row : RowA rxC 4 w p R
  ty : TyN 84 w p
  sub : ∀ x ∈ R, RowN w x.q (exI x.v.l) x.d
  eq : R.map Rx.pr = A
section
variable {w w' : World} {p q : Option Addr} {R : List Rx} {A : TA} {l : List Int} {d : Nat} {B b mb : Nat} {m : TM}
theorem RowN.k0 (h : RowN w q l d) (hk : K0 w w') : RowN w' q l d := ⟨h.row.k0 hk, h.ty.k0 hk, h.le⟩
theorem RowN.nil : RowN w none [] 0 := ⟨RowA.nil, TyN.none, Nat.le_refl _⟩
theorem RowN.own {base : Nat} (h : w.ownsRow base 3 1 (.slice q l.length d) l.length (l.flatMap inC)) : RowN w q l d := ⟨RowA.own h inC_length (by decide), TyN.own h, own_le h⟩
theorem RowT.k0 (h : RowT w p R A) (hk : K0 w w') : RowT w' p R A := ⟨h.row.k0 hk, h.ty.k0 hk, fun x hx => (h.sub x hx).k0 hk, h.eq⟩
theorem RowT.nil : RowT w none [] [] := ⟨RowA.nil, TyN.none, fun x hx => (by cases hx), rfl⟩
theorem RowT.len (h : RowT w p R A) : R.length = A.length := by rw [← h.eq, List.length_map]
theorem RowT.at (h : RowT w p R A) {j : Nat} {x : Rx} (hx : R[j]? = some x) : A[j]? = some (x.s, x.v) := by rw [← h.eq, List.getElem?_map, hx]; rfl
/-- The module's operations keep it. -/
theorem Tz.not_ty (h : Tz w B b mb m (fun _ => False)) {k : Nat} {c : Array Value} {t : TypeId} {f : Nat × Nat} (hc : w.heap[k]? = some (.cells c t f)) (ht : (t == 105) = false) : ¬ Tb mb m k := fun e => by
  rcases e with rfl | ⟨g, x, hx, e⟩
  · obtain ⟨es, c', hb, _⟩ := h.mm.blk
    rw [hb] at hc; cases hc
  · exact own_not (h.own g x hx (fun h => h)) hc ht e
theorem RowN.tb (h : RowN w q l d) (hz : Tz w B b mb m (fun _ => False)) (hk : Kp (Tb mb m) w w') : RowN w' q l d :=
  ⟨h.row.kpT h.ty hk (fun _ _ _ hc => hz.not_ty hc (by decide)), h.ty.kp hk (fun _ _ _ hc => hz.not_ty hc (by decide)), h.le⟩
theorem RowT.tb (h : RowT w p R A) (hz : Tz w B b mb m (fun _ => False)) (hk : Kp (Tb mb m) w w') : RowT w' p R A :=
  ⟨h.row.kpT h.ty hk (fun _ _ _ hc => hz.not_ty hc (by decide)), h.ty.kp hk (fun _ _ _ hc => hz.not_ty hc (by decide)), fun x hx => (h.sub x hx).tb hz hk, h.eq⟩
/-- Where a name stands. -/
theorem RowT.found (h : RowT w p R A) (hd : A.Pairwise fun p q => p.1 ≠ q.1) {j : Nat} {x : Rx} (hx : R[j]? = some x) : aget A x.s = some x.v := aget_at hd (List.mem_of_getElem? (h.at hx))
/-- A group is set. -/
theorem RowT.aset (h : RowT w p R A) (hd : A.Pairwise fun p q => p.1 ≠ q.1) {j : Nat} {x y : Rx} (hx : R[j]? = some x) (hs : y.s = x.s) : (R.set j y).map Rx.pr = Go.Proofs.YtgmmoghagpmpfaaGreatDoor.aset A x.s y.v := by
  rw [aset_old hd (h.at hx), List.map_set, h.eq]
  unfold Rx.pr
  rw [hs]
end
/-- Sizes. -/
theorem ivs_size {hi lo : Int} {l : List Iv} (h : IvS hi lo l) (h0 : 0 ≤ lo) (hh : lo ≤ hi + 1) : ((exI l).length : Int) ≤ hi + 1 - lo := by
  induction l generalizing lo with
  | nil => show ((0 : Nat) : Int) ≤ _; omega
  | cons x t ih =>
    obtain ⟨h1, h2, h3, h4⟩ := h
    have e : exI (x :: t) = x.l ++ exI t := rfl
    rw [e, List.length_append, Iv.l_len]
    cases t with
    | nil => show (((x.b - x.a + 1).toNat + 0 : Nat) : Int) ≤ _; omega
    | cons y r =>
      have hy := h4.1
      have hy2 := h4.2.1
      have hy3 := h4.2.2.1
      have := ih h4 (by omega) (by omega)
      omega
theorem WF.exlen {A : TA} (h : WF A) {p : ByteArray × Gv} (hp : p ∈ A) : (exI p.2.l).length ≤ 2147483646 := by
  have h1 := ivs_size (h.iv p hp) (by omega) (by have := (h.hi p hp).1; omega)
  have := (h.hi p hp).2
  omega
theorem ivs_len {hi : Int} : ∀ {lo : Int} {l : List Iv}, IvS hi lo l → l.length ≤ (exI l).length
  | _, [], _ => Nat.zero_le _
  | lo, x :: t, h => by
    obtain ⟨h1, h2, h3, h4⟩ := h
    have e : exI (x :: t) = x.l ++ exI t := rfl
    have := ivs_len h4
    rw [e, List.length_append, Iv.l_len, List.length_cons]
    omega
theorem WF.ivlen {A : TA} (h : WF A) {p : ByteArray × Gv} (hp : p ∈ A) : p.2.l.length ≤ 2147483646 := Nat.le_trans (ivs_len (h.iv p hp)) (h.exlen hp)

end Go.Proofs.YtgmmoghagpmpfaaGreatDoor

/- The formulas of functions by the symbolic evaluator, and that each gives the call's contract. Written by a program (gen.py). No condition. -/
namespace Go.Proofs.YtgmmoghagpmpfaaGreatDoor
set_option maxRecDepth 100000
set_option linter.unusedVariables false

def VC_nanS (a : ByteArray) (w : World) (R : Ending → World → Prop) : Prop :=
 R (Ending.returned (Value.bool !a.toList == a.toList)) w
theorem vc_nanS (a : ByteArray) (w : World) (R : Ending → World → Prop) (h : VC_nanS a w R) : Calls Tryz.prog 128 ([Value.string
    a] : List Value).toArray w R := by
  have e : execR { P := Tryz.prog, loops := [], pur := pur1, tails := [], joins := [], boxes := [] } Tryz.f128.results.toList R (Tryz.f128.body.getD .skip) (initF [Value.string
    a] (Tryz.f128.ntmps - ([Value.string a] : List Value).length)) w = VC_nanS a w R := by kernel_rfl
  have hb : Tryz.f128.body = some (Tryz.f128.body.getD .skip) := by kernel_rfl
  exact calls_of_exec' (P := Tryz.prog) (fn := Tryz.f128) (c := Tryz.f128.body.getD .skip) (args := [Value.string
    a]) (w := w) (R := R) pur1_ok Tryz.func128 hb e h

def VC_cmpS (a : ByteArray) (b : ByteArray) (w : World) (R : Ending → World → Prop) : Prop :=
 CallsS Tryz.prog 128 #[Value.string a] w fun (e : Ending) (w' : World) =>
 ∃ (x : Bool),
 e = Ending.returned (Value.bool x) ∧
 CallsS Tryz.prog 128 #[Value.string b] w' fun (e : Ending) (w' : World) =>
 ∃ (x_1 : Bool),
 e = Ending.returned (Value.bool x_1) ∧
 bsp x
 (bsp x_1 (R (Ending.returned (Value.int IntKind.i64 0)) w')
 (R (Ending.returned (Value.int IntKind.i64 (-1))) w'))
 (bsp x_1 (R (Ending.returned (Value.int IntKind.i64 1)) w')
 (bsp (Op.bytesLess a.toList b.toList) (R (Ending.returned (Value.int IntKind.i64 (-1))) w')
 (bsp (!(Op.bytesLess a.toList b.toList || a.toList == b.toList))
 (R (Ending.returned (Value.int IntKind.i64 1)) w') (R (Ending.returned (Value.int IntKind.i64 0)) w'))))
theorem vc_cmpS (a : ByteArray) (b : ByteArray) (w : World) (R : Ending → World → Prop) (h : VC_cmpS a b w R) : Calls Tryz.prog 108 ([Value.string
    a,
  Value.string b] : List Value).toArray w R := by
  have e : execR { P := Tryz.prog, loops := [], pur := pur1, tails := [], joins := [], boxes := [] } Tryz.f108.results.toList R (Tryz.f108.body.getD .skip) (initF [Value.string
    a,
  Value.string
    b] (Tryz.f108.ntmps - ([Value.string a, Value.string b] : List Value).length)) w = VC_cmpS a b w R := by kernel_rfl
  have hb : Tryz.f108.body = some (Tryz.f108.body.getD .skip) := by kernel_rfl
  exact calls_of_exec' (P := Tryz.prog) (fn := Tryz.f108) (c := Tryz.f108.body.getD .skip) (args := [Value.string a,
  Value.string b]) (w := w) (R := R) pur1_ok Tryz.func108 hb e h

end Go.Proofs.YtgmmoghagpmpfaaGreatDoor

/- Chapter 27: names compared, in the module and in the reference. Names are not too long; the library's variable MaxLen holds a number. -/
namespace Go.Proofs.YtgmmoghagpmpfaaGreatDoor
open Go.RowKit Go.Sort

theorem str_eq {a b : ByteArray} (h : a.toList = b.toList) : a = b := by
  rw [ByteArray.toList_eq, ByteArray.toList_eq] at h
  exact ByteArray.ext (Array.toList_inj.1 h)
theorem str_beq (a b : ByteArray) : (a.toList == b.toList) = decide (a = b) := by
  rw [Bool.eq_iff_iff]
  simp only [beq_iff_eq, decide_eq_true_eq]
  exact ⟨str_eq, fun h => by rw [h]⟩
theorem bl_cb : ∀ a b : List UInt8, Op.bytesLess a b = decide (Lib.compareBytes a b < 0)
  | [], [] => rfl
  | [], _ :: _ => rfl
  | _ :: _, [] => rfl
  | a :: l, b :: m => by
    unfold Op.bytesLess Lib.compareBytes
    by_cases h1 : a < b
    · simp [h1]
    · by_cases h2 : b < a
      · have h3 : a ≠ b := fun e => by subst e; exact h1 h2
        simp [h1, h2, h3]
      · have h3 : a = b := UInt8.le_antisymm (UInt8.not_lt.1 h2) (UInt8.not_lt.1 h1)
        subst h3
        simp [bl_cb l m]
theorem nanS_any (a : ByteArray) (w : World) : Calls Tryz.prog 128 #[.string a] w fun e w' => e = .returned (.bool false) ∧ w' = w := vc_nanS a w _ ⟨by simp, rfl⟩
theorem cmpS_any (a b : ByteArray) (w : World) : Calls Tryz.prog 108 #[.string a, .string b] w fun e w' => e = .returned (.int .i64 (Lib.compareBytes a.data.toList b.data.toList)) ∧ w' = w := by
  refine vc_cmpS a b w _ ⟨(nanS_any a w).mono fun e w1 ⟨he, hw⟩ => ⟨_, he, ?_⟩⟩
  subst hw
  refine ⟨(nanS_any b w1).mono fun e w2 ⟨he, hw⟩ => ⟨_, he, ?_⟩⟩
  subst hw
  have e1 : a.toList = a.data.toList := ByteArray.toList_eq a
  have e2 : b.toList = b.data.toList := ByteArray.toList_eq b
  rw [e1, e2, bl_cb]
  have ha := cb_anti a.data.toList b.data.toList
  have hcases : Lib.compareBytes a.data.toList b.data.toList = -1 ∨ Lib.compareBytes a.data.toList b.data.toList = 0 ∨ Lib.compareBytes a.data.toList b.data.toList = 1 := by
    have key : ∀ l m : List UInt8, Lib.compareBytes l m = -1 ∨ Lib.compareBytes l m = 0 ∨ Lib.compareBytes l m = 1 := by
      intro l
      induction l with
      | nil => intro m; cases m <;> simp [Lib.compareBytes]
      | cons x l ih =>
        intro m
        cases m with
        | nil => simp [Lib.compareBytes]
        | cons y m =>
          unfold Lib.compareBytes
          split
          · exact .inl rfl
          split
          · exact .inr (.inr rfl)
          · exact ih m
    exact key _ _
  refine bsp_intro (fun h => by cases h) (fun _ => bsp_intro (fun h => by cases h) (fun _ => bsp_intro (fun h => ?_) (fun h => bsp_intro (fun h2 => ?_) (fun h2 => ?_))))
  · have h := of_decide_eq_true h
    exact ⟨by congr 2; omega, rfl⟩
  · have h := of_decide_eq_false h
    simp only [Bool.not_eq_true', Bool.or_eq_false_iff, beq_eq_false_iff_ne] at h2
    have : Lib.compareBytes a.data.toList b.data.toList ≠ 0 := fun e => h2.2 (cb_zero _ _ e)
    exact ⟨by congr 2; omega, rfl⟩
  · have h := of_decide_eq_false h
    rw [decide_eq_false h] at h2
    have h3 : a.data.toList = b.data.toList := by simpa using h2
    exact ⟨by congr 2; rw [h3, cb_self], rfl⟩

theorem gparts1_any (s : ByteArray) (w : World) (hs : s.size ≤ 1073741824) (hG : GW w) : Calls Tryz.prog 82 #[.string s] w fun e w' => (∃ (p : Option Addr) (c : Nat), e = .returned (.slice p (partsD s).length c) ∧ StrP w' p (partsD s)) ∧ K0 w w' ∧ w.drawn ≤ w'.drawn := by
  refine vc_gparts1 s w _ ?_
  obtain ⟨mm, hG1⟩ := hG
  refine ⟨(Tryz.strings_Split s ⟨#[46]⟩ mm w (by omega) hG1 (by decide)).mono fun e w2 ⟨he, hw2⟩ => ?_⟩
  have hlen : (partsD s).length = Lib.countB s ⟨#[46]⟩ + 1 := Lib.splitB_all ⟨#[46]⟩ (by decide) 0 _ s rfl
  have hn2 : NewB w (.cells ((partsD s).map .string).toArray 9) w.heap.size w2 := ⟨rfl, hw2⟩
  rw [← hlen] at he
  have k2 : K0 w w2 := hn2.kp _
  refine ⟨_, _, _, he, ⟨_, _, rfl, fun k z hk => ⟨_, 0, rfl, ?_⟩⟩, k2, by rw [hw2]; exact Nat.le_refl _⟩
  rw [Nat.zero_add]
  exact cell_at hn2.block (by simp [hk])
theorem lsC_step {a b : List ByteArray} {k : Nat} {x y : ByteArray} (hx : a[k]? = some x) (hy : b[k]? = some y) : lsC (a.drop k) (b.drop k) = if Lib.compareBytes x.data.toList y.data.toList ≠ 0 then Lib.compareBytes x.data.toList y.data.toList else lsC (a.drop (k + 1)) (b.drop (k + 1)) := by
  have h1 := (List.getElem?_eq_some_iff.1 hx).1
  have h2 := (List.getElem?_eq_some_iff.1 hy).1
  have e1 : a.drop k = x :: a.drop (k + 1) := by
    rw [List.drop_eq_getElem_cons h1]
    rw [List.getElem?_eq_getElem h1] at hx
    cases hx; rfl
  have e2 : b.drop k = y :: b.drop (k + 1) := by
    rw [List.drop_eq_getElem_cons h2]
    rw [List.getElem?_eq_getElem h2] at hy
    cases hy; rfl
  rw [e1, e2]; rfl
theorem slcmp1_any (a b : List ByteArray) (p q : Option Addr) (c d : Nat) (w : World) (ha : StrP w p a) (hb : StrP w q b) (hla : a.length ≤ 4611686018427387904) (hlb : b.length ≤ 4611686018427387904) :
    Calls Tryz.prog 81 #[.slice p a.length c, .slice q b.length d] w fun e w' => e = .returned (.int .i64 (lsC a b)) ∧ w' = w := by
  refine vc_slcmp1 p a.length c q b.length d w _ ?_
  refine count1 a.length (by omega) (fun k w' => w' = w ∧ k ≤ b.length ∧ lsC a b = lsC (a.drop k) (b.drop k)) ⟨rfl, by omega, rfl⟩ ?_
  rintro I m k w' hk ⟨rfl, hkb, hI⟩ next
  refine bsp_intro (fun hlt => ?_) (fun hge => ?_)
  · have hlt : k < a.length := by simp at hlt; omega
    obtain ⟨x, b1, o1, hx, hp, hc1⟩ := ha.get hlt
    rw [Int.toNat_natCast]
    refine nn_is hp ⟨⟨by omega, by omega⟩, x, hc1, bsp_intro (fun h => ?_) (fun h => ?_)⟩
    · have h : b.length ≤ k := by simp at h; omega
      have e1 : b.drop k = [] := List.drop_eq_nil_of_le h
      have e2 : a.drop k = x :: a.drop (k + 1) := by
        rw [List.drop_eq_getElem_cons hlt]
        rw [List.getElem?_eq_getElem hlt] at hx
        cases hx; rfl
      rw [hI, e1, e2]
      exact ⟨rfl, rfl⟩
    · have h : k < b.length := by simp at h; omega
      obtain ⟨y, b2, o2, hy, hq, hc2⟩ := hb.get h
      refine nn_is hq ⟨⟨by omega, by omega⟩, y, hc2, ⟨(cmpS_any x y w').mono fun e w2 ⟨he, hw⟩ => ⟨_, he, ?_⟩⟩⟩
      subst hw
      rw [lsC_step hx hy] at hI
      refine bsp_intro (fun h3 => ?_) (fun h3 => ?_)
      · have h3 : Lib.compareBytes x.data.toList y.data.toList ≠ 0 := by simpa using h3
        rw [if_pos h3] at hI
        rw [hI]
        exact ⟨rfl, rfl⟩
      · have h3 : Lib.compareBytes x.data.toList y.data.toList = 0 := by simpa using h3
        rw [if_neg (by omega)] at hI
        exact next hlt _ ⟨rfl, h, hI⟩
  · have : k = a.length := by simp at hge; omega
    subst this
    rw [List.drop_length] at hI
    refine bsp_intro (fun h => ?_) (fun h => ?_)
    · have h : a.length < b.length := by simpa using h
      rw [List.drop_eq_getElem_cons h] at hI
      rw [hI]
      exact ⟨rfl, rfl⟩
    · have h : a.length = b.length := by simp at h; omega
      rw [h, List.drop_length] at hI
      rw [hI]
      exact ⟨rfl, rfl⟩
theorem gncmp1_any (s t : ByteArray) (w : World) (hs : s.size ≤ 1073741824) (ht : t.size ≤ 1073741824) (hG : GW w) : Calls Tryz.prog 52 #[.string s, .string t] w fun e w' => e = .returned (.int .i64 (gnC s t)) ∧ K0 w w' ∧ w.drawn ≤ w'.drawn := by
  refine vc_gncmp1 s t w _ ⟨(gparts1_any s w hs hG).mono fun e w1 ⟨⟨p, c, he, hP⟩, k1, d1⟩ => ⟨_, _, _, he, ⟨(gparts1_any t w1 ht (hG.kp k1 (fun h => h))).mono fun e w2 ⟨⟨q, d, he, hQ⟩, k2, d2⟩ => ⟨_, _, _, he, ?_⟩⟩⟩⟩
  have l1 := partsD_le s.size s (Nat.le_refl _)
  have l2 := partsD_le t.size t (Nat.le_refl _)
  exact ⟨(slcmp1_any (partsD s) (partsD t) p q c d w2 (hP.k0 k2) hQ (by omega) (by omega)).mono fun e w3 ⟨he, hw⟩ => ⟨_, he, rfl, by rw [hw]; exact k1.trans k2, by rw [hw]; omega⟩⟩
end Go.Proofs.YtgmmoghagpmpfaaGreatDoor

/- Chapter 27, plain: what an operation does to a table; marks never decrease; operations on two names. No program in sight. -/
namespace Go.Proofs.YtgmmoghagpmpfaaGreatDoor
open Go.RowKit

/-- Assign: the table, the numbers, the error. -/
def asR (A : TA) (l : List ByteArray) : TA × List Int × Int := if l.length = 0 then (A, [], 1) else if ¬ l.Nodup then (A, [], 7) else if asE A l ≠ 0 then (A, [], asE A l) else (asS A l, asN A l, 0)
def fstL (l : List ByteArray) : ByteArray := l.headD ⟨#[]⟩
/-- What an operation does to a table. -/
def opX (A : TA) (k : Int) (l : List ByteArray) (n : Int) : TA :=
  if k % 8 = 0 then (opA A (fstL l)).1 else if k % 8 = 1 then (clA A (fstL l)).1 else if k % 8 = 6 ∨ k % 8 = 7 then (rmA A (fstL l) n).1 else (asR A l).1
theorem wf_asR {A : TA} (h : WF A) (l : List ByteArray) : WF (asR A l).1 := by
  unfold asR
  split
  · exact h
  split
  · exact h
  rename_i h1
  split
  · exact h
  rename_i h2
  exact wf_asS h (Classical.byContradiction h1) (Classical.byContradiction h2)
theorem wf_opX {A : TA} (h : WF A) (k : Int) (l : List ByteArray) (n : Int) : WF (opX A k l n) := by
  unfold opX
  split
  · exact wf_opA h _
  split
  · exact wf_clA h _
  split
  · exact wf_rmA h _ _
  · exact wf_asR h _
theorem aset_keep {β : Type} {l : List (ByteArray × β)} {a : ByteArray} {u v : β} (h : aget l a = some u) : (aset l a v).length = l.length := by
  induction l with
  | nil => cases h
  | cons p r ih =>
    obtain ⟨b, x⟩ := p
    unfold aget at h
    unfold aset
    split
    · rfl
    · rename_i hne
      rw [if_neg hne] at h
      simp [ih h]
theorem asS_len : ∀ (l : List ByteArray) (A : TA), (asS A l).length = A.length
  | [], _ => rfl
  | s :: r, A => by
    unfold asS
    cases hg : aget A s with
    | none => rfl
    | some v => simp only; rw [asS_len r, aset_keep hg]
theorem opA_len (A : TA) (s : ByteArray) : A.length ≤ (opA A s).1.length ∧ (opA A s).1.length ≤ A.length + 1 ∧ (A.length ≤ 4096 → (opA A s).1.length ≤ 4096) := by
  unfold opA
  split
  · exact ⟨Nat.le_refl _, by simp, fun h => h⟩
  split
  · rename_i v hg
    split
    · exact ⟨Nat.le_refl _, by simp, fun h => h⟩
    · show A.length ≤ (aset A s _).length ∧ (aset A s _).length ≤ _ ∧ (_ → (aset A s _).length ≤ _)
      rw [aset_keep hg]; exact ⟨Nat.le_refl _, by simp, fun h => h⟩
  · split
    · exact ⟨Nat.le_refl _, by simp, fun h => h⟩
    · rename_i hl
      show A.length ≤ (insA gnC A s _).length ∧ (insA gnC A s _).length ≤ _ ∧ (_ → (insA gnC A s _).length ≤ _)
      rw [(insA_perm A s _).length_eq, List.length_append]
      simp only [List.length_cons, List.length_nil]
      omega
theorem clA_len (A : TA) (s : ByteArray) : (clA A s).1.length = A.length := by
  unfold clA
  split
  · rename_i v hg
    split
    · rfl
    · exact aset_keep hg
  · rfl
theorem rmA_len (A : TA) (s : ByteArray) (n : Int) : (rmA A s n).1.length = A.length := by
  unfold rmA
  split
  · rename_i v hg
    split
    · exact aset_keep hg
    · rfl
  · rfl
theorem asR_len (A : TA) (l : List ByteArray) : (asR A l).1.length = A.length := by
  unfold asR
  split
  · rfl
  split
  · rfl
  split
  · rfl
  · exact asS_len l A
theorem opX_len (A : TA) (k : Int) (l : List ByteArray) (n : Int) : (opX A k l n).length ≤ A.length + 1 := by
  unfold opX
  split
  · exact (opA_len A _).2.1
  split
  · rw [clA_len]; omega
  split
  · rw [rmA_len]; omega
  · rw [asR_len]; omega

/-! ### Marks -/
/-- High and Low do not go back. -/
def Mk (u v : Gv) : Prop := u.h ≤ v.h ∧ lowI u ≤ lowI v
theorem Mk.refl (v : Gv) : Mk v v := ⟨Int.le_refl _, Int.le_refl _⟩
theorem asR_get {A : TA} (l : List ByteArray) (s : ByteArray) : aget (asR A l).1 s = aget A s ∨ ∃ v, aget A s = some v ∧ v.h < 2147483646 ∧ s ∈ l ∧ l.Nodup ∧ asE A l = 0 ∧ aget (asR A l).1 s = some (nxG v) := by
  unfold asR
  split
  · exact .inl rfl
  split
  · exact .inl rfl
  rename_i h1
  split
  · exact .inl rfl
  rename_i h2
  have h1 : l.Nodup := Classical.byContradiction h1
  have h2 : asE A l = 0 := Classical.byContradiction h2
  by_cases hs : s ∈ l
  · obtain ⟨i, hi⟩ := List.getElem?_of_mem hs
    obtain ⟨v, g1, g2, g3, g4, _⟩ := asS_at h1 h2 hi
    exact .inr ⟨v, g1, g3, hs, h1, h2, g4⟩
  · exact .inl (asS_get hs)
/-! ### Operations on one name -/
/-- What an operation on a name does to it, where there is room. -/
def loX (s : ByteArray) (k n : Int) (o : Option Gv) : Option Gv :=
  if k % 8 = 0 then opG s False o else if k % 8 = 1 then clG o else if k % 8 = 6 ∨ k % 8 = 7 then rmG n o else match o with
  | some v => if v.c = true then some v else if 2147483646 ≤ v.h then some v else some (nxG v)
  | none => none
theorem opX_lo {A : TA} (h : WF A) (hl : A.length < 4096) (s t : ByteArray) (k n : Int) : aget (opX A k [s] n) t = if s = t then loX s k n (aget A s) else aget A t := by
  unfold opX loX
  have ef : fstL [s] = s := rfl
  rw [ef]
  split
  · rw [opA_get h]
    split
    · congr 1
      · exact propext ⟨fun h => by omega, fun h => h.elim⟩
    · rfl
  split
  · exact clA_get s t
  split
  · exact rmA_get s t n
  · unfold asR
    rw [if_neg (by simp), if_neg (by simp)]
    have ee : asE A [s] = match aget A s with | some v => if v.c = true then 10 else if 2147483646 ≤ v.h then 9 else 0 | none => 8 := rfl
    have es : asS A [s] = match aget A s with | some v => aset A s (nxG v) | none => A := rfl
    rw [ee, es]
    cases hg : aget A s with
    | none =>
      simp only
      rw [if_pos (by decide)]
      split
      · rename_i e; subst e; exact hg
      · rfl
    | some v =>
      simp only
      by_cases c1 : v.c = true
      · rw [if_pos c1, if_pos (by decide), if_pos c1]
        split
        · rename_i e; subst e; exact hg
        · rfl
      · rw [if_neg c1, if_neg c1]
        by_cases c2 : 2147483646 ≤ v.h
        · rw [if_pos c2, if_pos (by decide), if_pos c2]
          split
          · rename_i e; subst e; exact hg
          · rfl
        · rw [if_neg c2, if_neg (by decide), if_neg c2]
          show aget (aset A s (nxG v)) t = _
          rw [aget_aset]
theorem nodup_len {α : Type} [DecidableEq α] : ∀ (l m : List α), l.Nodup → (∀ x ∈ l, x ∈ m) → l.length ≤ m.length
  | [], _, _, _ => Nat.zero_le _
  | x :: l, m, hn, hs => by
    obtain ⟨h1, h2⟩ := List.nodup_cons.1 hn
    have hx := hs x List.mem_cons_self
    have := nodup_len l (m.erase x) h2 (fun y hy => (List.mem_erase_of_ne (fun e => h1 (by rw [← e]; exact hy))).2 (hs y (List.mem_cons_of_mem _ hy)))
    rw [List.length_erase_of_mem hx] at this
    have := List.length_pos_of_mem hx
    rw [List.length_cons]
    omega
theorem WF.keys {A : TA} (h : WF A) : (A.map (·.1)).Nodup := by
  rw [List.Nodup, List.pairwise_map]
  exact h.dis
/-- Two tables of which one says what the other says are the same. -/
theorem sub_eq {A B : TA} (hA : WF A) (hB : WF B) (hl : A.length = B.length) (h : ∀ p ∈ A, aget B p.1 = some p.2) : A = B := by
  refine ksort_ext hA.sort hB.sort (fun s => ?_)
  cases hg : aget A s with
  | some v => exact (h (s, v) (aget_mem hg)).symm
  | none =>
    cases hb : aget B s with
    | none => rfl
    | some v =>
      exfalso
      have hn : s ∉ A.map (·.1) := fun hm => by
        obtain ⟨p, hp, e⟩ := List.mem_map.1 hm
        exact aget_none.1 hg p hp e
      have := nodup_len (s :: A.map (·.1)) (B.map (·.1)) (List.nodup_cons.2 ⟨hn, hA.keys⟩) (fun x hx => by
        rcases List.mem_cons.1 hx with rfl | hx
        · exact List.mem_map.2 ⟨(x, v), aget_mem hb, rfl⟩
        · obtain ⟨p, hp, rfl⟩ := List.mem_map.1 hx
          exact List.mem_map.2 ⟨(p.1, p.2), aget_mem (h p hp), rfl⟩)
      simp at this
      omega
end Go.Proofs.YtgmmoghagpmpfaaGreatDoor

/- The formulas of functions by the symbolic evaluator, and that each gives the call's contract. Written by a program (gen.py). No condition. -/
namespace Go.Proofs.YtgmmoghagpmpfaaGreatDoor
set_option maxRecDepth 100000
set_option linter.unusedVariables false

end Go.Proofs.YtgmmoghagpmpfaaGreatDoor

/- Chapter 27: the reference's Find, Low, set, Open, Close, Numbers, Has, Neighbour. Printed by mkxa27.py. Names are not too long, lists of numbers either. -/
namespace Go.Proofs.YtgmmoghagpmpfaaGreatDoor
open Go.RowKit Go.Sort Go.Maps

/-- The reference's table in the memory, with the room of its row. -/
def RowU (w : World) (p : Option Addr) (c : Nat) (A : TA) : Prop := ∃ R, RowT w p R A ∧ A.length ≤ c
theorem RowU.k0 {w w' : World} {p : Option Addr} {c : Nat} {A : TA} (h : RowU w p c A) (hk : K0 w w') : RowU w' p c A := by obtain ⟨R, h1, h2⟩ := h; exact ⟨R, h1.k0 hk, h2⟩
theorem RowU.tb {w w' : World} {p : Option Addr} {c : Nat} {A : TA} {B b mb : Nat} {m : TM} (h : RowU w p c A) (hz : Tz w B b mb m (fun _ => False)) (hk : Kp (Tb mb m) w w') : RowU w' p c A := by obtain ⟨R, h1, h2⟩ := h; exact ⟨R, h1.tb hz hk, h2⟩
/-- Highest numbers are not great. -/
def Sm (k : Nat) (A : TA) : Prop := ∀ p ∈ A, p.2.h ≤ (k : Int)
theorem Sm.len {k : Nat} {A : TA} (h : Sm k A) (hA : WF A) {p : ByteArray × Gv} (hp : p ∈ A) : (exI p.2.l).length ≤ k := by
  have h1 := ivs_size (hA.iv p hp) (by omega) (by have := (hA.hi p hp).1; omega)
  have := h p hp
  omega
section
variable {w : World} {p : Option Addr} {R : List Rx} {A : TA}
end

end Go.Proofs.YtgmmoghagpmpfaaGreatDoor

/- Chapter 27: the reference's Remove and Assign. Names are not too long, lists of numbers either. -/
namespace Go.Proofs.YtgmmoghagpmpfaaGreatDoor
open Go.RowKit Go.Sort Go.Maps

section
variable {w : World} {p : Option Addr} {R : List Rx} {A : TA}
theorem asR_err {l : List ByteArray} {e : Int} (h0 : ¬ l.length = 0) (hnd : l.Nodup) (he : asE A l = e) (hne : e ≠ 0) : asR A l = (A, [], e) := by
  unfold asR
  rw [if_neg h0, if_neg (by simpa using hnd), if_pos (by rw [he]; exact hne), he]
end

end Go.Proofs.YtgmmoghagpmpfaaGreatDoor

/- Chapter 27: intervals, places, groups compared by ==. No condition. -/
namespace Go.Proofs.YtgmmoghagpmpfaaGreatDoor
open Go.RowKit

theorem eqf_cons {P : Program} {w : World} {d : Nat} {xs ys : Array Value} {f : Field} {fs : List Field} (hn : f.name ≠ "_") {a b : Value} (hx : (part f.type xs f.offset).run P w = .ok a w) (hy : (part f.type ys f.offset).run P w = .ok b w) {r s : Bool} (hr : (Op.equalIn d f.type a b).run P w = .ok r w) (hs : (Op.eqFields d xs ys fs).run P w = .ok s w) : (Op.eqFields d xs ys (f :: fs)).run P w = .ok (r && s) w := by
  simp only [Op.eqFields, if_pos hn, Sem.run_bind, hx, hy, hr, Result.andThen_ok]
  cases r with
  | true => simpa using hs
  | false => simp
theorem fieldsOf_of {P : Program} {t : TypeId} {fs : Array Field} (h : P.underlying t = some (.struct fs)) : P.fieldsOf t = fs := by unfold Program.fieldsOf; rw [h]
theorem ivEq (x y : Iv) : EqP Tryz.prog 105 (.agg #[.int .i64 x.a, .int .i64 x.b]) (.agg #[.int .i64 y.a, .int .i64 y.b]) (x.a == y.a && (x.b == y.b && true)) := by
  refine ⟨fun w => ?_, by kernel_rfl, _, _, rfl, rfl⟩
  show (Op.equalIn 10000 _ _ _).run _ w = _
  rw [run_equalIn_struct w 9999 105 _ _ (by kernel_rfl) (by kernel_rfl), fieldsOf_of Tryz.underlying105]
  exact eqf_cons (by decide) (by kernel_rfl) (by kernel_rfl) (run_equalIn_int w _ _ .i64 _ _ _ Tryz.underlying3) (eqf_cons (by decide) (by kernel_rfl) (by kernel_rfl) (run_equalIn_int w _ _ .i64 _ _ _ Tryz.underlying3) rfl)
theorem plEq27 (s t : ByteArray) (x y : Int) : EqP Tryz.prog 64 (.agg #[.string s, .int .i64 x]) (.agg #[.string t, .int .i64 y]) (s.toList == t.toList && (x == y && true)) := by
  refine ⟨fun w => ?_, by kernel_rfl, _, _, rfl, rfl⟩
  show (Op.equalIn 10000 _ _ _).run _ w = _
  rw [run_equalIn_struct w 9999 64 _ _ (by kernel_rfl) (by kernel_rfl), fieldsOf_of Tryz.underlying64]
  exact eqf_cons (by decide) (by kernel_rfl) (by kernel_rfl) (run_equalIn_string w _ _ _ _ Tryz.underlying9) (eqf_cons (by decide) (by kernel_rfl) (by kernel_rfl) (run_equalIn_int w _ _ .i64 _ _ _ Tryz.underlying3) rfl)
theorem grEq27 (s t : ByteArray) (a b c x y z : Int) (d e : Bool) : EqP Tryz.prog 31 (.agg #[.string s, .int .i64 a, .int .i64 b, .int .i64 c, .bool d]) (.agg #[.string t, .int .i64 x, .int .i64 y, .int .i64 z, .bool e]) (s.toList == t.toList && (a == x && (b == y && (c == z && (d == e && true))))) := by
  refine ⟨fun w => ?_, by kernel_rfl, _, _, rfl, rfl⟩
  show (Op.equalIn 10000 _ _ _).run _ w = _
  rw [run_equalIn_struct w 9999 31 _ _ (by kernel_rfl) (by kernel_rfl), fieldsOf_of Tryz.underlying31]
  exact eqf_cons (by decide) (by kernel_rfl) (by kernel_rfl) (run_equalIn_string w _ _ _ _ Tryz.underlying9) (eqf_cons (by decide) (by kernel_rfl) (by kernel_rfl) (run_equalIn_int w _ _ .i64 _ _ _ Tryz.underlying3) (eqf_cons (by decide) (by kernel_rfl) (by kernel_rfl) (run_equalIn_int w _ _ .i64 _ _ _ Tryz.underlying3) (eqf_cons (by decide) (by kernel_rfl) (by kernel_rfl) (run_equalIn_int w _ _ .i64 _ _ _ Tryz.underlying3) (eqf_cons (by decide) (by kernel_rfl) (by kernel_rfl) (run_equalIn_bool w _ _ _ _ Tryz.underlying4) rfl))))

end Go.Proofs.YtgmmoghagpmpfaaGreatDoor
