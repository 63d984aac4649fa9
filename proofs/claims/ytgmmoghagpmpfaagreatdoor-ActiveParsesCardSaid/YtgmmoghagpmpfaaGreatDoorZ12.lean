/- The formulas of functions by the symbolic evaluator, and that each gives the call's contract. Written by a program (gen.py). No condition. -/
import Derived.Test.YtgmmoghagpmpfaaGreatDoorProg
import Derived.Test.YtgmmoghagpmpfaaGreatDoorZ02
import Derived.Test.YtgmmoghagpmpfaaGreatDoorZ05
import Derived.Test.YtgmmoghagpmpfaaGreatDoorZ04
import Derived.KernelRfl
import Derived.Test.YtgmmoghagpmpfaaGreatDoorZ08
import Derived.Test.YtgmmoghagpmpfaaGreatDoorZ11
import Derived.Test.YtgmmoghagpmpfaaGreatDoorZ07
import Derived.Test.YtgmmoghagpmpfaaGreatDoorZ06
import Derived.Test.YtgmmoghagpmpfaaGreatDoorZ09
namespace Go.Proofs.YtgmmoghagpmpfaaGreatDoor
set_option maxRecDepth 100000
set_option linter.unusedVariables false

end Go.Proofs.YtgmmoghagpmpfaaGreatDoor

/- The formulas of functions by the symbolic evaluator, and that each gives the call's contract. Written by a program (gen.py). No condition. -/
namespace Go.Proofs.YtgmmoghagpmpfaaGreatDoor
set_option maxRecDepth 100000
set_option linter.unusedVariables false

end Go.Proofs.YtgmmoghagpmpfaaGreatDoor

/- Chapter 27: the law's names, first, do: an operation on the module's table and on the reference's. The library's variable MaxLen holds a number. -/
namespace Go.Proofs.YtgmmoghagpmpfaaGreatDoor
open Go.RowKit Go.Sort Go.Maps

section
variable {w : World} {B b mb : Nat} {m : TM} {A : TA}
end

end Go.Proofs.YtgmmoghagpmpfaaGreatDoor

/- Chapter 27: the law's state and play. The library's variable MaxLen holds a number. -/
namespace Go.Proofs.YtgmmoghagpmpfaaGreatDoor
open Go.RowKit Go.Sort Go.Maps

theorem hi_opX {A : TA} (h : WF A) (k : Int) (l : List ByteArray) (n : Int) {s : ByteArray} {u : Gv} (hg : aget (opX A k l n) s = some u) : (∃ v, aget A s = some v ∧ u.h ≤ v.h + 1) ∨ u.h = 0 := by
  unfold opX at hg
  split at hg
  · rw [opA_get h] at hg
    split at hg
    · rename_i e
      subst e
      cases hA : aget A (fstL l) with
      | none =>
        rw [hA] at hg
        unfold opG at hg
        simp only at hg
        split at hg
        · cases hg
        split at hg
        · cases hg
        · cases hg; exact .inr rfl
      | some v =>
        rw [hA] at hg
        unfold opG at hg
        simp only at hg
        refine .inl ⟨v, rfl, ?_⟩
        split at hg
        · cases hg; omega
        split at hg
        · cases hg; omega
        · cases hg; show v.h ≤ v.h + 1; omega
    · exact .inl ⟨u, hg, by omega⟩
  split at hg
  · rw [clA_get] at hg
    split at hg
    · rename_i e
      subst e
      cases hA : aget A (fstL l) with
      | none => rw [hA] at hg; cases hg
      | some v => rw [hA] at hg; cases hg; exact .inl ⟨v, rfl, by show v.h ≤ v.h + 1; omega⟩
    · exact .inl ⟨u, hg, by omega⟩
  split at hg
  · rw [rmA_get] at hg
    split at hg
    · rename_i e
      subst e
      cases hA : aget A (fstL l) with
      | none => rw [hA] at hg; cases hg
      | some v =>
        rw [hA] at hg
        unfold rmG at hg
        simp only at hg
        refine .inl ⟨v, rfl, ?_⟩
        split at hg
        · cases hg; show v.h ≤ v.h + 1; omega
        · cases hg; omega
    · exact .inl ⟨u, hg, by omega⟩
  · rcases asR_get (A := A) l s with e | ⟨v, g1, _, _, _, _, g3⟩
    · exact .inl ⟨u, by rw [← e]; exact hg, by omega⟩
    · rw [hg] at g3
      cases g3
      exact .inl ⟨v, g1, Int.le_refl _⟩
theorem Sm.opX {A : TA} {j : Nat} (h : WF A) (hs : Sm j A) (k : Int) (l : List ByteArray) (n : Int) : Sm (j + 1) (opX A k l n) := fun p hp => by
  rcases hi_opX h k l n (aget_at (wf_opX h k l n).dis hp) with ⟨v, h1, h2⟩ | h1
  · have : v.h ≤ (j : Int) := hs _ (aget_mem h1)
    omega
  · rw [h1]; omega
theorem Sm.mono {A : TA} {j k : Nat} (hs : Sm j A) (h : j ≤ k) : Sm k A := fun p hp => by have := hs p hp; omega
/-- What operations keep. -/
structure Pl27 (A : TA) (n : Nat) : Prop where
  wf : WF A
  len : A.length ≤ n
  sm : Sm n A
theorem Pl27.op {A : TA} {n : Nat} (h : Pl27 A n) (k : Int) (l : List ByteArray) (a : Int) : Pl27 (opX A k l a) (n + 1) := ⟨wf_opX h.wf _ _ _, by have := opX_len A k l a; have := h.len; omega, Sm.opX h.wf h.sm _ _ _⟩
theorem Pl27.nil : Pl27 [] 0 := ⟨WF.nil, Nat.le_refl _, fun p hp => by cases hp⟩
section
variable {w : World} {B b mb : Nat} {m : TM} {A : TA}
end

end Go.Proofs.YtgmmoghagpmpfaaGreatDoor

/- The formulas of functions by the symbolic evaluator, and that each gives the call's contract. Written by a program (gen.py). No condition. -/
namespace Go.Proofs.YtgmmoghagpmpfaaGreatDoor
set_option maxRecDepth 100000
set_option linter.unusedVariables false

end Go.Proofs.YtgmmoghagpmpfaaGreatDoor

/- Chapter 27: ActiveClones on worlds. The library's variable MaxLen holds a number, its table of powers of ten reads as laid. -/
namespace Go.Proofs.YtgmmoghagpmpfaaGreatDoor
open Go.RowKit Go.Sort Go.Maps

end Go.Proofs.YtgmmoghagpmpfaaGreatDoor

/- Chapter 27: the reference's Parts at any byte. A text is not too long. -/
namespace Go.Proofs.YtgmmoghagpmpfaaGreatDoor
open Go.RowKit

set_option maxHeartbeats 1000000 in
theorem xpartsC_any (d : UInt8) (s : ByteArray) (w : World) (hs : s.size ≤ 1000000) : Calls Tryz.prog 71 #[.string s, .int .u8 (d.toNat : Int)] w fun e w' => (∃ (p : Option Addr) (c : Nat), e = .returned (.slice p (partsC d s).length c) ∧ StrP w' p (partsC d s)) ∧ K0 w w' := by
  refine vc_xparts s (d.toNat : Int) w _ ?_
  refine ⟨fun vs w' => ∃ (i a : Nat) (p : Option Addr) (c : Nat) (out : List ByteArray), vs = [.int .i64 (i : Int), .string (s.extract a i), .slice p out.length c] ∧ a ≤ i ∧ i ≤ s.size ∧ out.length ≤ i ∧ (∀ j, a ≤ j → j < i → at8 s j ≠ (d.toNat : Int)) ∧ partsC d s = out ++ partsC d (s.extract a s.size) ∧ w'.ownsRow w.heap.size 9 1 (.slice p out.length c) out.length (out.map .string) ∧ K0 w w',
    fun vs _ => (match vs with | .int _ x :: _ => s.size - x.toNat | _ => 0), ⟨0, 0, none, 0, [], by rw [ext_nil]; rfl, by omega, by omega, by simp, (fun j h1 h2 => by omega), by simp, ⟨rfl, .inl ⟨rfl, rfl⟩⟩, .refl _ _⟩, ?_⟩
  rintro x y p n c w1 ⟨i, a, p', c', out, hv, hai, hi, hol, hno, hP, ho, k1⟩
  simp only [List.cons.injEq, Value.int.injEq, Value.string.injEq, Value.slice.injEq, true_and, and_true] at hv
  obtain ⟨rfl, rfl, rfl, rfl, rfl⟩ := hv
  have hesz : (s.extract a s.size).size = s.size - a := by rw [ByteArray.size_extract]; omega
  have happ : ∀ (W : World), K0 w1 W → ∀ (n1 : Nat), W.heap[n1]? = some (.cells #[.string (s.extract a i)] 9 (0, 0)) → ∃ (base : Nat) (xs : List Value), W.ownsRow base 9 1 (.slice p out.length c) out.length xs ∧ out.length + 1 ≤ 9223372036854775807 ∧ (out.length + 1) * 16 ≤ 140737488355328 ∧ base ≤ W.heap.size ∧ base = w.heap.size ∧ xs = out.map .string := fun W k n1 _ =>
    ⟨w.heap.size, _, owns_kp ho k (fun _ _ h => h), by omega, by omega, Nat.le_trans k1.size k.size, rfl, rfl⟩
  refine bsp_intro (fun hlt => ?_) (fun hge => ?_)
  · have hlt : i < s.size := by simp at hlt; omega
    rw [Int.toNat_natCast]
    refine ⟨⟨by omega, by omega⟩, bsp_intro (fun hb => fun n1 W hW => ?_) (fun hb => ?_)⟩
    · have hb : at8 s i = (d.toNat : Int) := by simpa using hb
      have kW : K0 w1 W := hW.kk rfl
      obtain ⟨base, xs, h1, h2, h3, h4, rfl, rfl⟩ := happ W kW n1 (hW.cells 0 rfl)
      refine ⟨_, _, h1, h2, h3, h4, fun p' c' w2 ho2 hg2 _ => ?_⟩
      have k2 : K0 w w2 := (k1.trans kW).fresh (kp_grown hg2) (fun j hj e => by have := own_ge ho e; omega)
      have hfst : FirstC d (s.extract a s.size) 0 (i - a) := ⟨Nat.zero_le _, by omega, fun j _ hj => by
        rw [T0.at8_extract s a s.size j (by omega) (Nat.le_refl _)]
        exact hno (a + j) (by omega) (by omega), fun h => by
        rw [T0.at8_extract s a s.size _ (by omega) (Nat.le_refl _), show a + (i - a) = i by omega]
        exact hb⟩
      have hh := partsC_hit hfst (by omega)
      have e1 : (s.extract a s.size).extract 0 (i - a) = s.extract a i := by rw [ByteArray.extract_extract]; congr 1; omega
      have e2 : (s.extract a s.size).extract (i - a + 1) (s.extract a s.size).size = s.extract (i + 1) s.size := by rw [hesz, ByteArray.extract_extract]; congr 1 <;> omega
      rw [e1, e2] at hh
      have el : (out ++ [s.extract a i]).length = out.length + 1 := by simp
      refine ⟨⟨(kp_grown hg2).size, fun _ hx => by cases hx⟩, ⟨i + 1, i + 1, p', c', out ++ [s.extract a i], by rw [inc64 (by omega), ext_nil, el], by omega, hlt, by rw [el]; omega, (fun j h1 h2 => by omega), by rw [hP, hh, List.append_assoc]; rfl, by rw [el, List.map_append]; exact ho2, k2⟩, by rw [inc64 (by omega)]; simp only [Int.toNat_natCast]; omega⟩
    · have hb : at8 s i ≠ (d.toNat : Int) := by simpa using hb
      rw [inc64 (by omega), Int.toNat_natCast]
      have e1 : s.extract a i ++ s.extract i (i + 1) = s.extract a (i + 1) := by
        rw [ByteArray.extract_append_extract]; congr 1 <;> omega
      have z1 : (s.extract a i).size ≤ s.size := by rw [ByteArray.size_extract]; omega
      have z2 : (s.extract i (i + 1)).size ≤ s.size := by rw [ByteArray.size_extract]; omega
      rw [e1]
      refine ⟨⟨by omega, by omega, by omega⟩, nneg (by omega), ⟨i + 1, a, p, c, out, rfl, by omega, hlt, by omega, fun j h1 h2 => ?_, hP, ho, k1⟩, by simp only [Int.toNat_natCast]; omega⟩
      by_cases e : j = i
      · rw [e]; exact hb
      · exact hno j h1 (by omega)
  · have hi2 : i = s.size := by simp at hge; omega
    subst hi2
    intro n1 W hW
    have kW : K0 w1 W := hW.kk rfl
    obtain ⟨base, xs, h1, h2, h3, h4, rfl, rfl⟩ := happ W kW n1 (hW.cells 0 rfl)
    refine ⟨_, _, h1, h2, h3, h4, fun p' c' w2 ho2 hg2 _ => ?_⟩
    have k2 : K0 w w2 := (k1.trans kW).fresh (kp_grown hg2) (fun j hj e => by have := own_ge ho e; omega)
    have hh := partsC_miss (c := d) (s := s.extract a s.size) (i := (s.extract a s.size).size) ⟨Nat.zero_le _, Nat.le_refl _, fun j _ hj => by
      rw [T0.at8_extract s a s.size j (by omega) (Nat.le_refl _)]
      exact hno (a + j) (by omega) (by omega), fun h => by omega⟩ (by omega)
    rw [hh] at hP
    have el : (out ++ [s.extract a s.size]).length = out.length + 1 := by simp
    rw [hP, el]
    refine ⟨⟨(kp_grown hg2).size, fun _ hx => by cases hx⟩, ⟨p', c', rfl, ?_⟩, k2⟩
    have : w2.ownsRow w.heap.size 9 1 (.slice p' (out.length + 1) c') (out.length + 1) ((out ++ [s.extract a s.size]).map .string) := by rw [List.map_append]; exact ho2
    intro k z hk
    obtain ⟨g, hp, hc⟩ := own_cellL this (i := k) (v := .string z) (by rw [List.getElem?_map, hk]; rfl)
    exact ⟨g, 0, hp, by rw [Nat.zero_add]; exact hc⟩

end Go.Proofs.YtgmmoghagpmpfaaGreatDoor

/- Chapter 27: the reference's number and Intervals. A text is not too long. -/
namespace Go.Proofs.YtgmmoghagpmpfaaGreatDoor
open Go.RowKit Go.Sort Go.Maps

/-- The number that the reference reads; -1 if there is none. -/
def nmX (s : ByteArray) (m : Int) : Int := if (numR s m).2 = 0 then (numR s m).1 else -1
theorem nmX_ok {s : ByteArray} {m : Int} (h : (numR s m).2 = 0) : nmX s m = (numR s m).1 := if_pos h
theorem nmX_no {s : ByteArray} {m : Int} (h : ¬ (numR s m).2 = 0) : nmX s m = -1 := if_neg h
theorem nvF_big {s : ByteArray} (h : NumOK s) (h0 : 1 < s.size) : ∀ k, k + 1 ≤ s.size → (10 ^ k : Int) ≤ nvF s (k + 1)
  | 0, _ => by
    have h1 := h.2.1 0 (by omega)
    have h2 := h.2.2 h0
    show (1 : Int) ≤ 10 * 0 + (at8 s 0 - 48)
    omega
  | k + 1, hk => by
    have h1 := nvF_big h h0 k (by omega)
    have h2 := h.2.1 (k + 1) (by omega)
    have e : nvF s (k + 1 + 1) = 10 * nvF s (k + 1) + (at8 s (k + 1) - 48) := rfl
    rw [e, Int.pow_succ]
    omega
theorem nvF_lt {s : ByteArray} : ∀ k, (∀ j, j < k → 48 ≤ at8 s j ∧ at8 s j ≤ 57) → nvF s k < (10 ^ k : Int) ∧ 0 ≤ nvF s k
  | 0, _ => by show (0 : Int) < 1 ∧ (0 : Int) ≤ 0; omega
  | k + 1, hd => by
    have h1 := nvF_lt (s := s) k (fun j hj => hd j (by omega))
    have h2 := hd k (by omega)
    have e : nvF s (k + 1) = 10 * nvF s k + (at8 s k - 48) := rfl
    rw [e, Int.pow_succ]
    omega
theorem pow10_le {k : Nat} (h : k ≤ 10) : (10 ^ k : Int) ≤ 10000000000 := by
  have : (10 : Nat) ^ k ≤ 10 ^ 10 := Nat.pow_le_pow_right (by omega) h
  have h2 : ((10 ^ k : Nat) : Int) ≤ ((10 ^ 10 : Nat) : Int) := Int.ofNat_le.2 this
  rw [Int.natCast_pow] at h2
  exact h2
section
variable {w : World}
set_option maxHeartbeats 1000000 in
theorem acxnumber_any (s : ByteArray) (m : Int) (w : World) (hm : 0 ≤ m ∧ m ≤ 2147483646) :
    Calls Tryz.prog 74 #[.string s, .int .i64 m] w fun e w' => e = .returned (.int .i64 (nmX s m)) ∧ w' = w := by
  have hno : ¬ NumOK s → nmX s m = -1 := fun h => nmX_no (by unfold numR; rw [if_neg h]; decide)
  refine vc_acxnumber s m w _ ?_
  unfold VC_acxnumber
  rw [toList_nil]
  refine ⟨gimp_intro fun h => ⟨by omega, by simp only [Bool.and_eq_true, decide_eq_true_eq] at h; omega⟩, bsp_intro (fun hb => ?_) (fun hb => ?_)⟩
  · refine ⟨?_, rfl⟩
    simp only [Bool.or_eq_true, Bool.and_eq_true, decide_eq_true_eq, beq_iff_eq] at hb
    by_cases hok : NumOK s
    · have h0 := hok.1
      have hbig : s.size > 10 := by
        rcases hb with (hb | hb) | ⟨h1, h2⟩
        · omega
        · omega
        · exact absurd h2 (hok.2.2 (by omega))
      have h1 : (10 ^ 10 : Int) ≤ nvF s 11 := nvF_big hok (by omega) 10 (by omega)
      have h2 := nvF_mono hok.2.1 11 (s.size - 11) (by omega)
      rw [show 11 + (s.size - 11) = s.size by omega] at h2
      have h3 : (10 ^ 10 : Int) = 10000000000 := by decide
      rw [nmX_no]
      unfold numR
      rw [if_pos hok, if_neg (by omega), if_neg (by omega)]
      decide
    · rw [hno hok]
  simp only [Bool.or_eq_false_iff, Bool.and_eq_false_iff, decide_eq_false_iff_not, beq_eq_false_iff_ne] at hb
  obtain ⟨⟨hb1, hb2⟩, hb3⟩ := hb
  have h0 : 0 < s.size := by omega
  have h10 : s.size ≤ 10 := by omega
  refine ⟨fun vs w' => ∃ k : Nat, vs = [.int .i64 (k : Int), .int .i64 (nvF s k)] ∧ k ≤ s.size ∧ (∀ j, j < k → 48 ≤ at8 s j ∧ at8 s j ≤ 57) ∧ w' = w,
    fun vs _ => (match vs with | .int _ x :: _ => s.size - x.toNat | _ => 0), ⟨0, rfl, by omega, fun j h => by omega, rfl⟩, ?_⟩
  rintro x y w2 ⟨k, hv, hk, hd, rfl⟩
  simp only [List.cons.injEq, Value.int.injEq, true_and, and_true] at hv
  obtain ⟨rfl, rfl⟩ := hv
  obtain ⟨hl1, hl2⟩ := nvF_lt k hd
  have hp := pow10_le (k := k) (by omega)
  refine bsp_intro (fun hlt => ?_) (fun hge => ?_)
  · have hlt : k < s.size := by simp only [decide_eq_true_eq] at hlt; omega
    rw [Int.toNat_natCast]
    refine ⟨⟨by omega, by omega⟩, gimp_intro fun _ => ⟨by omega, by omega⟩, bsp_intro (fun hg => ?_) (fun hg => ?_)⟩
    · simp only [Bool.or_eq_true, decide_eq_true_eq] at hg
      refine ⟨?_, rfl⟩
      rw [hno]
      intro hok
      have := hok.2.1 k hlt
      omega
    · simp only [Bool.or_eq_false_iff, decide_eq_false_iff_not] at hg
      have hdk : 48 ≤ at8 s k ∧ at8 s k ≤ 57 := by omega
      rw [IntWalk.u8_in (at8 s k - 48) ⟨by omega, by omega⟩, wr64 (x := at8 s k - 48) (by omega) (by omega), wr64 (x := 10 * nvF s k) (by omega) (by omega), wr64 (x := 10 * nvF s k + (at8 s k - 48)) (by omega) (by omega), inc64 (by omega)]
      refine ⟨⟨by omega, by omega⟩, ⟨k + 1, rfl, hlt, fun j hj => ?_, rfl⟩, by simp only [Int.toNat_natCast]; omega⟩
      by_cases e : j = k
      · rw [e]; exact hdk
      · exact hd j (by omega)
  · have hk2 : k = s.size := by simp only [decide_eq_false_iff_not] at hge; omega
    subst hk2
    have hok : NumOK s := ⟨h0, hd, fun h1 h2 => by
      rcases hb3 with h | h
      · omega
      · exact h h2⟩
    refine bsp_intro (fun hg => ?_) (fun hg => ?_)
    · have hg : m < nvF s s.size := by simpa using hg
      refine ⟨?_, rfl⟩
      rw [nmX_no]
      unfold numR
      rw [if_pos hok, if_neg (by omega), if_neg (by omega)]
      decide
    · have hg : nvF s s.size ≤ m := by simp only [decide_eq_false_iff_not] at hg; omega
      refine ⟨?_, rfl⟩
      have e : numR s m = (nvF s s.size, 0) := by unfold numR; rw [if_pos hok, if_neg (by omega), if_pos hg]
      rw [nmX_ok (by rw [e]), e]
/-- The ranges of a word, one after the other. -/
theorem ivL_app {hi : Int} : ∀ {l : List ByteArray} {n : Int} {a : List Iv} {r : List ByteArray}, ivL hi l n = some a → ivL hi (l ++ r) n = (ivL hi r (match a.getLast? with | some x => x.b + 2 | none => n)).map (a ++ ·)
  | [], n, a, r, h => by
    cases h
    show ivL hi r n = (ivL hi r n).map ([] ++ ·)
    cases ivL hi r n <;> rfl
  | p :: l, n, a, r, h => by
    unfold ivL at h
    rw [List.cons_append]
    conv => lhs; unfold ivL
    cases hp : ivP p hi with
    | none => rw [hp] at h; cases h
    | some x =>
      rw [hp] at h
      simp only at h ⊢
      split at h
      · rename_i hn
        rw [if_pos hn]
        cases hl : ivL hi l (x.b + 2) with
        | none => rw [hl] at h; cases h
        | some b =>
          rw [hl] at h
          cases h
          rw [ivL_app hl]
          have : (x :: b).getLast? = match b.getLast? with | some y => some y | none => some x := by
            cases b with
            | nil => rfl
            | cons y t => simp [List.getLast?_cons_cons]; cases h3 : (y :: t).getLast? with
              | none => simp at h3
              | some z => rfl
          rw [this]
          cases hb : b.getLast? with
          | none => simp only; cases ivL hi r (x.b + 2) <;> simp
          | some y => simp only; cases ivL hi r (y.b + 2) <;> simp
      · cases h
theorem numR_dash {s : ByteArray} {m : Int} (h : findC 45 s < s.size) : ¬ (numR s m).2 = 0 := by
  have h1 := (findC_first 45 s).2.2.2 h
  have hn : ¬ NumOK s := fun hok => by
    have := hok.2.1 _ h
    have e : ((45 : UInt8).toNat : Int) = 45 := rfl
    omega
  unfold numR
  rw [if_neg hn]
  decide
theorem ivP_parts (p : ByteArray) (hi : Int) : (2 < (partsC 45 p).length ∧ ivP p hi = none) ∨ (∃ a b, partsC 45 p = [a, b] ∧ ivP p hi = if (numR a hi).2 = 0 ∧ (numR b hi).2 = 0 ∧ (numR a hi).1 < (numR b hi).1 then some ⟨(numR a hi).1, (numR b hi).1⟩ else none) ∨ (partsC 45 p = [p] ∧ ivP p hi = if (numR p hi).2 = 0 then some ⟨(numR p hi).1, (numR p hi).1⟩ else none) := by
  by_cases h : findC 45 p < p.size
  · have hh := partsC_hit (findC_first 45 p) h
    by_cases h2 : findC 45 (p.extract (findC 45 p + 1) p.size) < (p.extract (findC 45 p + 1) p.size).size
    · refine .inl ⟨?_, ?_⟩
      · rw [hh, partsC_hit (findC_first 45 _) h2, List.length_cons, List.length_cons]
        have := partsC_ne 45 ((p.extract (findC 45 p + 1) p.size).extract (findC 45 (p.extract (findC 45 p + 1) p.size) + 1) (p.extract (findC 45 p + 1) p.size).size)
        have := List.length_pos_iff.2 this
        omega
      · unfold ivP
        rw [if_pos h, if_neg (fun e => numR_dash h2 e.2.1)]
    · refine .inr (.inl ⟨p.extract 0 (findC 45 p), p.extract (findC 45 p + 1) p.size, ?_, ?_⟩)
      · rw [hh, partsC_miss (findC_first 45 _) h2]
      · unfold ivP
        rw [if_pos h]
  · refine .inr (.inr ⟨partsC_miss (findC_first 45 p) h, ?_⟩)
    unfold ivP
    rw [if_neg h]
def nxI (a : List Iv) : Int := match a.getLast? with | some x => x.b + 2 | none => 1
def lsI (a : List Iv) : Int := match a.getLast? with | some x => x.b | none => -1
theorem ls_nx {hi : Int} {a : List Iv} (h : IvS hi 1 a) : -1 ≤ lsI a ∧ 1 ≤ nxI a ∧ (hi ≤ 2147483646 → lsI a ≤ 2147483646) ∧ (0 < a.length → nxI a = lsI a + 2) ∧ (a.length = 0 → nxI a = 1) := by
  unfold lsI nxI
  cases hl : a.getLast? with
  | none =>
    have : a = [] := List.getLast?_eq_none_iff.1 hl
    subst this
    simp
  | some x =>
    have hm := h.mem x (List.mem_of_getLast? hl)
    have hne : a.length ≠ 0 := fun e => by
      have : a = [] := List.eq_nil_of_length_eq_zero e
      subst this
      cases hl
    simp only
    exact ⟨by omega, by omega, fun _ => by omega, fun _ => trivial, fun e => absurd e hne⟩
theorem ls_snoc (a : List Iv) (x : Iv) : lsI (a ++ [x]) = x.b := by unfold lsI; simp
theorem ivL_bad {hi : Int} {L : List ByteArray} {i : Nat} {acc : List Iv} {p : ByteArray} (h : ivL hi (L.take i) 1 = some acc) (hp : L[i]? = some p) (hb : ∀ x, ivP p hi = some x → ¬ nxI acc ≤ x.a) : ivL hi L 1 = none := by
  obtain ⟨hl, e⟩ := List.getElem?_eq_some_iff.1 hp
  have e1 : L = L.take i ++ (p :: L.drop (i + 1)) := by rw [← e, ← List.drop_eq_getElem_cons hl, List.take_append_drop]
  rw [e1, ivL_app h]
  show (ivL hi (p :: L.drop (i + 1)) (nxI acc)).map _ = none
  unfold ivL
  cases hv : ivP p hi with
  | none => rfl
  | some x =>
    simp only
    rw [if_neg (hb x hv)]
    rfl
theorem ivL_good {hi : Int} {L : List ByteArray} {i : Nat} {acc : List Iv} {p : ByteArray} {x : Iv} (h : ivL hi (L.take i) 1 = some acc) (hp : L[i]? = some p) (hv : ivP p hi = some x) (hn : nxI acc ≤ x.a) : ivL hi (L.take (i + 1)) 1 = some (acc ++ [x]) := by
  rw [take_snoc hp, ivL_app h]
  show (ivL hi [p] (nxI acc)).map _ = _
  unfold ivL
  rw [hv]
  simp only
  rw [if_pos hn]
  rfl
set_option maxRecDepth 100000 in
set_option maxHeartbeats 4000000 in
theorem acxintervals_any (s : ByteArray) (zh : Int) (w : World) (hs : s.size ≤ 100000) (hz : 0 ≤ zh ∧ zh ≤ 2147483646) :
    Calls Tryz.prog 75 #[.string s, .int .i64 zh] w fun e w' => (match ivL zh (partsC 44 s) 1 with
      | some l => ∃ p c, e = .returned (.tuple #[.slice p l.length c, .bool true]) ∧ RowA ivC 2 w' p l ∧ TyN 38 w' p
      | none => e = .returned (.tuple #[.slice none 0 0, .bool false])) ∧ K0 w w' := by
  refine vc_acxintervals s zh w _ ⟨(xpartsC_any 44 s w (by omega)).mono fun e w1 ⟨⟨pL, cL, he, hL⟩, k1⟩ => ⟨_, _, _, he, .of_k0 k1, ?_⟩⟩
  have hln := parts_len 44 s
  have hps := parts_size 44 s
  generalize partsC 44 s = L at *
  refine ⟨fun vs w' => ∃ (i : Nat) (q : Option Addr) (d : Nat) (acc : List Iv), vs = [.int .i64 (i : Int), .slice q acc.length d, .int .i64 (lsI acc)] ∧ i ≤ L.length ∧ ivL zh (L.take i) 1 = some acc ∧ w'.ownsRow w1.heap.size 38 2 (.slice q acc.length d) acc.length (acc.flatMap ivC) ∧ K0 w1 w',
    fun vs _ => (match vs with | .int _ a :: _ => L.length - a.toNat | _ => 0), ⟨0, none, 0, [], rfl, by omega, rfl, World.ownsRow_nil _ _ _ _, .refl _ _⟩, ?_⟩
  rintro xi p1 n1 c1 xl w2 ⟨i, q, d, acc, hv, hi, hA, ho, k2⟩
  simp only [List.cons.injEq, Value.int.injEq, Value.slice.injEq, true_and, and_true] at hv
  obtain ⟨rfl, ⟨rfl, rfl, rfl⟩, rfl⟩ := hv
  obtain ⟨hiv, hmp⟩ := ivL_ok hA
  have hal : acc.length = i := by
    have := congrArg List.length hmp
    rw [List.length_map, List.length_take] at this
    omega
  obtain ⟨l1, l2, l3, l4, l5⟩ := ls_nx hiv
  have l3 := l3 hz.2
  refine bsp_intro (fun hlt => ?_) (fun hge => ?_)
  · have hlt : i < L.length := by simp only [decide_eq_true_eq] at hlt; omega
    obtain ⟨p, b, o, hp, hpp, hcp⟩ := (hL.k0 k2).get hlt
    have zp := hps p (List.mem_of_getElem? hp)
    rw [Int.toNat_natCast]
    refine nn_is hpp ⟨⟨by omega, by omega⟩, p, hcp, ⟨(xpartsC_any 45 p w2 (by omega)).mono fun e w3 ⟨⟨pE, cE, he, hE⟩, k3⟩ => ⟨_, _, _, he, .of_k0 k3, ?_⟩⟩⟩
    rw [wr64 (x := lsI acc + 1) (by omega) (by omega)]
    rcases ivP_parts p zh with ⟨h2, hN⟩ | ⟨a, b, hab, hV⟩ | ⟨h1, hV⟩
    · refine bsp_intro (fun _ => ?_) (fun hb => by simp only [decide_eq_false_iff_not] at hb; omega)
      rw [ivL_bad hA hp (fun x hx => by rw [hN] at hx; cases hx)]
      exact ⟨rfl, (k1.trans k2).trans k3⟩
    · rw [hab] at hE ⊢
      obtain ⟨a', ba, oa, ha', hpa, hca⟩ := hE.get (k := 0) (show 0 < 2 by decide)
      obtain ⟨b', bb, ob, hb', hpb, hcb⟩ := hE.get (k := 1) (show 1 < 2 by decide)
      cases ha'
      cases hb'
      refine bsp_intro (fun hb => absurd hb (show ¬ decide (((2 : Nat) : Int) > 2) = true by decide)) (fun _ => nn_is hpa ⟨⟨by decide, show (0 : Int) < ((2 : Nat) : Int) by decide⟩, a, hca, ⟨(acxnumber_any a zh w3 hz).mono fun e w4 ⟨he, hw⟩ => ⟨_, he, by rw [hw]; exact .refl _ _, ?_⟩⟩⟩)
      subst hw
      refine bsp_intro (fun _ => nn_is hpb ⟨⟨by decide, show (1 : Int) < ((2 : Nat) : Int) by decide⟩, b, hcb, ⟨(acxnumber_any b zh w4 hz).mono fun e w5 ⟨he, hw⟩ => ⟨_, he, by rw [hw]; exact .refl _ _, ?_⟩⟩⟩) (fun hb => absurd hb (show ¬ ((((2 : Nat) : Int) == 2) = false) by decide))
      subst hw
      obtain ⟨u, hu⟩ : ∃ u, u = nmX a zh := ⟨_, rfl⟩
      obtain ⟨v, hv⟩ : ∃ v, v = nmX b zh := ⟨_, rfl⟩
      rw [← hu, ← hv]
      have k24 : K0 w2 w5 := k3
      have k04 := (k1.trans k2).trans k24
      have hbad : ∀ x, ivP p zh = some x → x.a = u ∧ x.b = v ∧ u < v := fun x hx => by
        rw [hV] at hx
        split at hx
        · rename_i hc
          cases hx
          rw [hu, hv, nmX_ok hc.1, nmX_ok hc.2.1]
          exact ⟨rfl, rfl, hc.2.2⟩
        · cases hx
      refine bsp_intro (fun hb => ?_) (fun hb0 => ?_)
      · have hb : v ≤ u := by simpa using hb
        rw [ivL_bad hA hp (fun x hx => by have := hbad x hx; omega)]
        exact ⟨rfl, k04⟩
      have hb0 : u < v := by simpa using hb0
      have hgood : 1 ≤ u → 1 ≤ v → ivP p zh = some ⟨u, v⟩ := fun h1 h2 => by
        have n1 : (numR a zh).2 = 0 := Classical.byContradiction fun h => by rw [nmX_no h] at hu; omega
        have n2 : (numR b zh).2 = 0 := Classical.byContradiction fun h => by rw [nmX_no h] at hv; omega
        rw [nmX_ok n1] at hu
        rw [nmX_ok n2] at hv
        rw [hV, if_pos ⟨n1, n2, by rw [← hu, ← hv]; exact hb0⟩, hu, hv]

      refine bsp_intro (fun hb => ?_) (fun hb n5 W hW => ?_)
      · have hbd : ivL zh L 1 = none := ivL_bad hA hp (fun x hx hn => by
          obtain ⟨x1, x2, x3⟩ := hbad x hx
          simp only [Bool.or_eq_true, Bool.and_eq_true, decide_eq_true_eq] at hb
          rcases hb with (hb | hb) | ⟨hb, h0⟩
          · omega
          · omega
          · have := l4 (by omega)
            omega)
        rw [hbd]
        exact ⟨rfl, k04⟩
      · simp only [Bool.or_eq_false_iff, Bool.and_eq_false_iff, decide_eq_false_iff_not] at hb
        obtain ⟨⟨hb1, hb2⟩, hb3⟩ := hb
        have hv := hgood (by omega) (by omega)
        have hn : nxI acc ≤ u := by
          rcases Nat.eq_zero_or_pos acc.length with h0 | h0
          · rw [l5 h0]; omega
          · rw [l4 h0]
            rcases hb3 with h | h
            · omega
            · omega
        have hA2 := ivL_good hA hp hv hn
        have kW : K0 w5 W := hW.kk rfl
        have k2W := k24.trans kW
        have hoW := owns_kp ho k2W (fun _ _ h => h)
        refine ⟨_, _, hoW, by omega, by omega, (k2.trans k2W).size, fun p6 c6 w6 ho6 hg6 _ => ?_⟩
        have kg := kp_grown hg6
        have k6 : K0 w1 w6 := (k2.trans k2W).fresh kg (fun j hj e => by have := own_ge hoW e; omega)
        rw [inc64 (by omega)]
        refine ⟨⟨kg.size, fun _ hm => by cases hm⟩, ⟨i + 1, p6, c6, acc ++ [⟨u, v⟩], by rw [List.length_append, List.length_singleton, ls_snoc], hlt, hA2, ?_, k6⟩, by simp only [Int.toNat_natCast]; omega⟩
        rw [List.length_append, List.length_singleton, List.flatMap_append]
        exact ho6

    · rw [h1] at hE ⊢
      obtain ⟨a', ba, oa, ha', hpa, hca⟩ := hE.get (k := 0) (show 0 < 1 by decide)
      cases ha'
      refine bsp_intro (fun hb => absurd hb (show ¬ decide (((1 : Nat) : Int) > 2) = true by decide)) (fun _ => nn_is hpa ⟨⟨by decide, show (0 : Int) < ((1 : Nat) : Int) by decide⟩, p, hca, ⟨(acxnumber_any p zh w3 hz).mono fun e w4 ⟨he, hw⟩ => ⟨_, he, by rw [hw]; exact .refl _ _, ?_⟩⟩⟩)
      subst hw
      refine bsp_intro (fun hb => absurd hb (show ¬ ((((1 : Nat) : Int) == 2) = true) by decide)) (fun _ => ?_)
      obtain ⟨u, hu⟩ : ∃ u, u = nmX p zh := ⟨_, rfl⟩
      rw [← hu]
      have k24 : K0 w2 w4 := k3
      have k04 := (k1.trans k2).trans k24
      have hbad : ∀ x, ivP p zh = some x → x.a = u ∧ x.b = u ∧ u ≤ u := fun x hx => by
        rw [hV] at hx
        split at hx
        · rename_i hc
          cases hx
          rw [hu, nmX_ok hc]
          exact ⟨rfl, rfl, Int.le_refl _⟩
        · cases hx
      have hgood : 1 ≤ u → 1 ≤ u → ivP p zh = some ⟨u, u⟩ := fun h1 _ => by
        have n1 : (numR p zh).2 = 0 := Classical.byContradiction fun h => by rw [nmX_no h] at hu; omega
        rw [nmX_ok n1] at hu
        rw [hV, if_pos n1, hu]

      refine bsp_intro (fun hb => ?_) (fun hb n5 W hW => ?_)
      · have hbd : ivL zh L 1 = none := ivL_bad hA hp (fun x hx hn => by
          obtain ⟨x1, x2, x3⟩ := hbad x hx
          simp only [Bool.or_eq_true, Bool.and_eq_true, decide_eq_true_eq] at hb
          rcases hb with (hb | hb) | ⟨hb, h0⟩
          · omega
          · omega
          · have := l4 (by omega)
            omega)
        rw [hbd]
        exact ⟨rfl, k04⟩
      · simp only [Bool.or_eq_false_iff, Bool.and_eq_false_iff, decide_eq_false_iff_not] at hb
        obtain ⟨⟨hb1, hb2⟩, hb3⟩ := hb
        have hv := hgood (by omega) (by omega)
        have hn : nxI acc ≤ u := by
          rcases Nat.eq_zero_or_pos acc.length with h0 | h0
          · rw [l5 h0]; omega
          · rw [l4 h0]
            rcases hb3 with h | h
            · omega
            · omega
        have hA2 := ivL_good hA hp hv hn
        have kW : K0 w4 W := hW.kk rfl
        have k2W := k24.trans kW
        have hoW := owns_kp ho k2W (fun _ _ h => h)
        refine ⟨_, _, hoW, by omega, by omega, (k2.trans k2W).size, fun p6 c6 w6 ho6 hg6 _ => ?_⟩
        have kg := kp_grown hg6
        have k6 : K0 w1 w6 := (k2.trans k2W).fresh kg (fun j hj e => by have := own_ge hoW e; omega)
        rw [inc64 (by omega)]
        refine ⟨⟨kg.size, fun _ hm => by cases hm⟩, ⟨i + 1, p6, c6, acc ++ [⟨u, u⟩], by rw [List.length_append, List.length_singleton, ls_snoc], hlt, hA2, ?_, k6⟩, by simp only [Int.toNat_natCast]; omega⟩
        rw [List.length_append, List.length_singleton, List.flatMap_append]
        exact ho6
  · have hi2 : i = L.length := by simp only [decide_eq_false_iff_not] at hge; omega
    subst hi2
    rw [List.take_length] at hA
    rw [hA]
    exact ⟨⟨p1, c1, rfl, RowA.own ho ivC_length (by decide), TyN.own ho⟩, k1.trans k2⟩
end

end Go.Proofs.YtgmmoghagpmpfaaGreatDoor

/- Chapter 27: the reference's line and Parse. Printed by mkxr27.py. Texts are not too long. -/
namespace Go.Proofs.YtgmmoghagpmpfaaGreatDoor
open Go.RowKit Go.Sort Go.Maps

/-- The cells of a line that was read. -/
def lxC (x : Rx) : List Value := [.string x.s, .int .i64 x.v.h, .bool x.v.c, .slice x.q x.v.l.length x.d]
theorem lxC_length (x : Rx) : (lxC x).length = 4 := rfl
/-- Its ranges in the memory. -/
structure RngX (w : World) (x : Rx) : Prop where
  row : RowA ivC 2 w x.q x.v.l
  ty : TyN 38 w x.q
theorem RngX.k0 {w w' : World} {x : Rx} (h : RngX w x) (hk : K0 w w') : RngX w' x := ⟨h.row.k0 hk, h.ty.k0 hk⟩
theorem RngX.kpT {M : Nat → Prop} {w w' : World} {x : Rx} (h : RngX w x) (hk : Kp M w w') (hm : ∀ k c f, w.heap[k]? = some (.cells c 38 f) → ¬ M k) : RngX w' x := ⟨h.row.kpT h.ty hk hm, h.ty.kp hk hm⟩
/-- What the reference's line answers. -/
def PLx (w : World) (s bf : ByteArray) (e : Ending) (w' : World) : Prop := (match lineA s bf with
  | .inl g => ∃ q d, e = .returned (.tuple #[.agg #[.string g.1, .int .i64 g.2.h, .bool g.2.c, .slice q g.2.l.length d], .int .i64 0]) ∧ RowA ivC 2 w' q g.2.l ∧ TyN 38 w' q
  | .inr er => er ≠ 0 ∧ e = .returned (.tuple #[.agg #[.string ⟨#[]⟩, .int .i64 0, .bool false, .slice none 0 0], .int .i64 er])) ∧ K0 w w'
set_option maxRecDepth 100000 in
set_option maxHeartbeats 8000000 in
theorem acxline_any (s bf : ByteArray) (f : Bool) (w : World) (hs : s.size ≤ 100000) (hbz : bf.size ≤ 100000) (hf : f = decide (bf.size = 0)) :
    Calls Tryz.prog 44 #[.string s, .string bf, .bool f] w (PLx w s bf) := by
  refine vc_acxline s bf f w _ (fun n W hW => ?_)
  have kW : K0 w W := hW.kk rfl
  have gn : w.heap.size ≤ n := hW.fresh 0 rfl rfl
  have cn : W.heap[n]? = some (.cells #[.string ⟨#[]⟩, .int .i64 0, .bool false, .slice none 0 0] 36 (0, 0)) := hW.cells 0 rfl
  refine ⟨(xpartsC_any 32 s W (by omega)).mono fun e w1 ⟨⟨p, cp, he, hS⟩, k1⟩ => ⟨_, _, _, he, .of_k0 k1, ?_⟩⟩
  have hps := parts_size 32 s
  have hpl := parts_len 32 s
  have k01 := kW.trans k1
  have cn1 := k1.blk cn (fun h => h)
  have fail : ∀ {er : Int} {w' : World}, K0 w w' → w'.heap[n]? = some (.cells #[.string ⟨#[]⟩, .int .i64 0, .bool false, .slice none 0 0] 36 (0, 0)) → lineA s bf = .inr er → er ≠ 0 → WrL w' n 0 4 ∧ ∀ w1 : World, PutB w' n 0 [.string ⟨#[]⟩, .int .i64 0, .bool false, .slice none 0 0] w1 → KeptL [] w' w1 ∧ ∃ (x : ByteArray) (x1 : Int) (x2 : Bool) (p : Option Addr) (n2 c2 : Nat), AtL w1 n 0 [.string x, .int .i64 x1, .bool x2, .slice p n2 c2] ∧ PLx w s bf (.returned (.tuple #[.agg #[.string x, .int .i64 x1, .bool x2, .slice p n2 c2], .int .i64 er])) w1 := fun {er w'} k hc e h =>
    ⟨WrL_block hc (by decide), fun w1 hP => ⟨put_kept hP (fun _ hm => by cases hm), ⟨#[]⟩, 0, false, none, 0, 0, AtL_block (hP.full hc rfl) rfl, by
      unfold PLx; rw [e]; exact ⟨⟨h, rfl⟩, put_k0 k hP gn⟩⟩⟩
  refine bsp_intro (fun h0 W2 hW2 => ?_) (fun h0 => ?_)
  · unfold PLx
    rw [lineA_other (by simp at h0; omega)]
    exact ⟨⟨by decide, rfl⟩, hW2.k0 k01⟩
  have h3 : ¬ (partsC 32 s).length < 3 := by simp at h0; omega
  have h4 : ¬ 4 < (partsC 32 s).length := by simp at h0; omega
  refine ⟨fun vs w' => ∃ i : Nat, vs = [.int .i64 (i : Int)] ∧ i ≤ (partsC 32 s).length ∧ (∀ x ∈ (partsC 32 s).take i, x.size ≠ 0) ∧ w' = w1, fun vs _ => (match vs with | .int _ a :: _ => (partsC 32 s).length - a.toNat | _ => 0), ⟨0, rfl, by omega, (fun x hx => by simp at hx), rfl⟩, ?_⟩
  rintro xi w2 ⟨i, hv, hi, hnz, hw⟩
  simp only [List.cons.injEq, Value.int.injEq, true_and, and_true] at hv
  subst hv
  subst hw
  refine bsp_intro (fun hlt => ?_) (fun hge => ?_)
  · have hlt : i < (partsC 32 s).length := by simpa using hlt
    obtain ⟨x, b, o, hx, hp, hc⟩ := hS.get hlt
    rw [Int.toNat_natCast]
    refine nn_is hp ⟨⟨by omega, by omega⟩, x, hc, ?_⟩
    rw [emB]
    refine bsp_intro (fun hz => fail k01 cn1 (lineA_empty ?_) (by decide)) (fun hz => ?_)
    · have hz : x.size = 0 := by simpa using hz
      rw [← size0_eq hz]
      exact List.mem_of_getElem? hx
    · have hz : x.size ≠ 0 := by simpa using hz
      rw [inc64 (by omega)]
      refine ⟨⟨i + 1, rfl, hlt, fun y hy => ?_, rfl⟩, by simp only [Int.toNat_natCast]; omega⟩
      rw [take_snoc hx] at hy
      rcases List.mem_append.1 hy with hy | hy
      · exact hnz y hy
      · rw [List.mem_singleton.1 hy]; exact hz
  have hi2 : i = (partsC 32 s).length := by simp at hge; omega
  subst hi2
  rw [List.take_length] at hnz
  have hx : ⟨#[]⟩ ∉ partsC 32 s := fun hm => hnz _ hm rfl
  obtain ⟨a, b, c, d, hp, hlin⟩ := lineA_words (bf := bf) h3 h4 hx
  rw [hp] at hS hps ⊢
  have ha : a.size ≤ 100000 := by have := hps a (by simp); omega
  have hbz2 : b.size ≤ 100000 := by have := hps b (by simp); omega
  have hlen : ([a, b, c] ++ d.toList).length = 3 + d.toList.length := by simp; omega
  obtain ⟨x0, pb, po, hx0, hpp, hc0⟩ := hS.get (k := 0) (by simp)
  have e0 : x0 = a := by simp at hx0; exact hx0.symm
  subst e0
  have cell : ∀ {wx : World} {j : Nat} {z : ByteArray}, K0 w2 wx → ([x0, b, c] ++ d.toList)[j]? = some z → wx.cell? ⟨pb, po + j, none⟩ = some (.string z) := fun k hj => by
    obtain ⟨z', pb', po', hz', hp', hc'⟩ := hS.get (List.getElem?_eq_some_iff.1 hj).1
    rw [hj] at hz'
    cases hz'
    rw [hpp] at hp'
    cases hp'
    exact k.cell' hc' (fun h => h)
  refine nn_is hpp ⟨⟨by omega, by rw [hlen]; omega⟩, x0, by simpa using hc0, ⟨(xgcheck_any x0 w2).mono fun e w3 ⟨he, k3⟩ => ⟨_, he, .of_k0 k3, bsp_intro (fun hg => ?_) (fun hg => ?_)⟩⟩⟩
  · have hg : gnE x0 ≠ 0 := by simpa using hg
    exact fail (k01.trans k3) (k3.blk cn1 (fun h => h)) (by rw [hlin]; unfold lineW; rw [if_pos hg]) hg
  have hg : gnE x0 = 0 := by simpa using hg
  have k03 := k01.trans k3
  have cn3 := k3.blk cn1 (fun h => h)
  refine nn_is hpp ⟨gimp_intro fun _ => ⟨by omega, by rw [hlen]; omega⟩, x0, gimp_intro fun _ => cell (j := 0) k3 rfl, bsp_intro (fun hff => ⟨(xr12_any bf x0 (by omega) (by omega) w3).mono fun e wx ⟨he, kx'⟩ => ⟨_, he, .of_k0 kx', bsp_intro (fun h30 => ?_) (fun h30 => ?_)⟩⟩) (fun hff => ⟨.refl _ _, ?_⟩)⟩
  · have h30 : 0 ≤ gnC bf x0 := by simpa using h30
    have hbn : bf.size ≠ 0 := by rw [hf] at hff; simpa using hff
    exact fail (k03.trans kx') (kx'.blk cn3 (fun h => h)) (by rw [hlin]; unfold lineW; rw [if_neg (by simpa using hg), if_pos ⟨hbn, h30⟩]) (by decide)
  · have hno : ¬ (bf.size ≠ 0 ∧ 0 ≤ gnC bf x0) := fun ⟨_, h1⟩ => by simp at h30; omega
    have kx : K0 w wx := k03.trans kx'
    have kx2 : K0 w2 wx := k3.trans kx'
    have cnx := kx'.blk cn3 (fun h => h)
    refine nn_is hpp ⟨⟨by omega, by rw [hlen]; omega⟩, b, cell kx2 rfl, ⟨(acxnumber_any b 2147483646 wx ⟨by omega, by omega⟩).mono fun e w5 ⟨he, hw5⟩ => ⟨_, he, by rw [hw5]; exact .refl _ _, ?_⟩⟩⟩
    subst hw5
    refine bsp_intro (fun h2 => fail kx cnx ?_ (by decide)) (fun h2 => ?_)
    · have h2 : (numR b 2147483646).2 ≠ 0 := fun e => by
        rw [nmX_ok e] at h2
        have := (numR_ok e).2.1
        simp at h2
        omega
      rw [hlin]; unfold lineW
      rw [if_neg (by simpa using hg), if_neg hno, if_pos h2]
    have h2 : (numR b 2147483646).2 = 0 := Classical.byContradiction fun e => by rw [nmX_no e] at h2; simp at h2
    rw [nmX_ok h2]
    obtain ⟨_, u1, u2, _⟩ := numR_ok h2
    refine nn_is hpp ⟨⟨by omega, by rw [hlen]; omega⟩, c, cell kx2 rfl, nn_is hpp ⟨gimp_intro fun _ => ⟨by omega, by rw [hlen]; omega⟩, c, gimp_intro fun _ => cell kx2 rfl, bsp_intro (fun h3 => fail kx cnx ?_ (by decide)) (fun h3 W3 hW3 => ?_)⟩⟩
    · rw [yB, yB] at h3
      have h3 : c ≠ ⟨#[121]⟩ ∧ c ≠ ⟨#[110]⟩ := by simpa using h3
      rw [hlin]; unfold lineW
      rw [if_neg (by simpa using hg), if_neg hno, if_neg (by simpa using h2), if_pos h3]
    have h3 : ¬ (c ≠ ⟨#[121]⟩ ∧ c ≠ ⟨#[110]⟩) := fun ⟨a1, a2⟩ => by
      rw [yB, yB, decide_eq_false a1, decide_eq_false a2] at h3
      cases h3
    have kW3 : K0 w5 W3 := hW3.kk rfl
    refine ⟨fun w' => K0 w5 w', kW3, nn_is hpp ⟨⟨by omega, by rw [hlen]; omega⟩, x0, fun w' k => cell (j := 0) (kx2.trans k) rfl, nn_is hpp ⟨⟨by omega, by rw [hlen]; omega⟩, c, fun w' k => cell (kx2.trans k) rfl, fun n2 w6 hN => ?_⟩⟩⟩
    rw [yB]
    have c6 := hN.block
    have gn2 := hN.ge
    have k56 : K0 w5 w6 := kW3.trans (hN.kp _)
    refine ⟨k56, WrL_block c6 (by decide), fun w7 hP => ?_⟩
    have c7 := hP.full c6 rfl
    have k37 : K0 W3 w7 := put_k0 (hN.kp _) hP gn2
    have k57 := kW3.trans k37
    have k07 := kx.trans k57
    have c37 : w7.heap[n]? = some (.cells #[.string ⟨#[]⟩, .int .i64 0, .bool false, .slice none 0 0] 36 (0, 0)) := k57.blk cnx (fun h => h)
    have hne : n ≠ n2 := fun e => by have := block_lt cnx; have := kW3.size; omega
    refine ⟨.of_k0 k37, ?_⟩
    cases d with
    | none =>
      have hl : lineA s bf = .inl (x0, ⟨(numR b 2147483646).1, decide (c = ⟨#[110]⟩), []⟩) := by
        rw [hlin]; unfold lineW
        rw [if_neg (by simpa using hg), if_neg hno, if_neg (by simpa using h2), if_neg h3]
      refine bsp_intro (fun h => by simp at h) (fun _ => ⟨_, _, _, none, 0, 0, AtL_block c7 rfl, WrL_block c37 (by decide), fun w8 hP8 => ?_⟩)
      have c8 := hP8.full c37 rfl
      have k08 : K0 w w8 := put_k0 k07 hP8 gn
      refine ⟨put_kept hP8 (fun _ hm => by cases hm), _, _, _, none, 0, 0, AtL_block c8 rfl, ?_⟩
      unfold PLx
      rw [hl]
      exact ⟨⟨none, 0, rfl, RowA.nil, TyN.none⟩, k08⟩
    | some d =>
      have hdz : d.size ≤ 100000 := by have := hps d (by simp); omega
      refine bsp_intro (fun _ => nn_is hpp ⟨⟨by omega, by rw [hlen]; simp⟩, d, cell (kx2.trans k57) rfl, ?_⟩) (fun h => by simp at h)
      refine ⟨(acxintervals_any d (numR b 2147483646).1 w7 hdz ⟨u1, u2⟩).mono fun e w8 ⟨hm, k8⟩ => ?_⟩
      have k08 := k07.trans k8
      have c38 := k8.blk c37 (fun h => h)
      cases hiv : ivL (numR b 2147483646).1 (partsC 44 d) 1 with
      | none =>
        rw [hiv] at hm
        refine ⟨none, 0, 0, false, hm, .of_k0 k8, bsp_intro (fun _ => fail k08 c38 ?_ (by decide)) (fun h => by cases h)⟩
        rw [hlin]; unfold lineW
        rw [if_neg (by simpa using hg), if_neg hno, if_neg (by simpa using h2), if_neg h3]
        simp only
        rw [hiv]
      | some l =>
        rw [hiv] at hm
        obtain ⟨q, cc, he, hrow, hty⟩ := hm
        have hl : lineA s bf = .inl (x0, ⟨(numR b 2147483646).1, decide (c = ⟨#[110]⟩), l⟩) := by
          rw [hlin]; unfold lineW
          rw [if_neg (by simpa using hg), if_neg hno, if_neg (by simpa using h2), if_neg h3]
          simp only
          rw [hiv]
        have c28 := k8.blk c7 (fun h => h)
        refine ⟨q, l.length, cc, true, he, .of_k0 k8, bsp_intro (fun h => by cases h) (fun _ => ⟨⟨⟨_, by rw [cell_block c28]; rfl⟩, frozen_block c28 _⟩, fun w9 hP9 => ?_⟩)⟩
        have c29 : w9.heap[n2]? = some (.cells #[.string x0, .int .i64 (numR b 2147483646).1, .bool (decide (c = ⟨#[110]⟩)), .slice q l.length cc] 36 (0, 0)) := hP9.block c28
        have k39 : K0 W3 w9 := put_k0 (k37.trans k8) hP9 gn2
        have k09 : K0 w w9 := (kx.trans kW3).trans k39
        have c39 := hP9.blk c38 hne
        have hX9 : RngX w9 ⟨x0, ⟨(numR b 2147483646).1, decide (c = ⟨#[110]⟩), l⟩, q, cc⟩ := RngX.kpT ⟨hrow, hty⟩ hP9.kp (fun k c f hc e => by have e : k = n2 := e; subst e; exact blk_ne hc c28 rfl rfl)
        refine ⟨put_kept hP9 (fun _ hm => by cases hm), _, _, _, q, l.length, cc, AtL_block c29 rfl, WrL_block c39 (by decide), fun w10 hP10 => ?_⟩
        have c10 := hP10.full c39 rfl
        have k10 : K0 w w10 := put_k0 k09 hP10 gn
        refine ⟨put_kept hP10 (fun _ hm => by cases hm), _, _, _, q, l.length, cc, AtL_block c10 rfl, ?_⟩
        unfold PLx
        rw [hl]
        have hX := hX9.kpT hP10.kp (fun k c f hc e => by have e : k = n := e; subst e; exact blk_ne hc c39 rfl rfl)
        exact ⟨⟨q, cc, rfl, hX.row, hX.ty⟩, k10⟩
  · have hno : ¬ (bf.size ≠ 0 ∧ 0 ≤ gnC bf x0) := fun ⟨h1, _⟩ => by rw [hf] at hff; simp only [Bool.not_eq_eq_eq_not, Bool.not_false, decide_eq_true_eq] at hff; exact h1 hff
    obtain ⟨wx, hwx⟩ : ∃ wx, wx = w3 := ⟨_, rfl⟩
    have kx : K0 w wx := by rw [hwx]; exact k03
    have kx2 : K0 w2 wx := by rw [hwx]; exact k3
    have cnx : wx.heap[n]? = some (.cells #[.string ⟨#[]⟩, .int .i64 0, .bool false, .slice none 0 0] 36 (0, 0)) := by rw [hwx]; exact cn3
    rw [← hwx]
    clear hwx
    refine nn_is hpp ⟨⟨by omega, by rw [hlen]; omega⟩, b, cell kx2 rfl, ⟨(acxnumber_any b 2147483646 wx ⟨by omega, by omega⟩).mono fun e w5 ⟨he, hw5⟩ => ⟨_, he, by rw [hw5]; exact .refl _ _, ?_⟩⟩⟩
    subst hw5
    refine bsp_intro (fun h2 => fail kx cnx ?_ (by decide)) (fun h2 => ?_)
    · have h2 : (numR b 2147483646).2 ≠ 0 := fun e => by
        rw [nmX_ok e] at h2
        have := (numR_ok e).2.1
        simp at h2
        omega
      rw [hlin]; unfold lineW
      rw [if_neg (by simpa using hg), if_neg hno, if_pos h2]
    have h2 : (numR b 2147483646).2 = 0 := Classical.byContradiction fun e => by rw [nmX_no e] at h2; simp at h2
    rw [nmX_ok h2]
    obtain ⟨_, u1, u2, _⟩ := numR_ok h2
    refine nn_is hpp ⟨⟨by omega, by rw [hlen]; omega⟩, c, cell kx2 rfl, nn_is hpp ⟨gimp_intro fun _ => ⟨by omega, by rw [hlen]; omega⟩, c, gimp_intro fun _ => cell kx2 rfl, bsp_intro (fun h3 => fail kx cnx ?_ (by decide)) (fun h3 W3 hW3 => ?_)⟩⟩
    · rw [yB, yB] at h3
      have h3 : c ≠ ⟨#[121]⟩ ∧ c ≠ ⟨#[110]⟩ := by simpa using h3
      rw [hlin]; unfold lineW
      rw [if_neg (by simpa using hg), if_neg hno, if_neg (by simpa using h2), if_pos h3]
    have h3 : ¬ (c ≠ ⟨#[121]⟩ ∧ c ≠ ⟨#[110]⟩) := fun ⟨a1, a2⟩ => by
      rw [yB, yB, decide_eq_false a1, decide_eq_false a2] at h3
      cases h3
    have kW3 : K0 w5 W3 := hW3.kk rfl
    refine ⟨fun w' => K0 w5 w', kW3, nn_is hpp ⟨⟨by omega, by rw [hlen]; omega⟩, x0, fun w' k => cell (j := 0) (kx2.trans k) rfl, nn_is hpp ⟨⟨by omega, by rw [hlen]; omega⟩, c, fun w' k => cell (kx2.trans k) rfl, fun n2 w6 hN => ?_⟩⟩⟩
    rw [yB]
    have c6 := hN.block
    have gn2 := hN.ge
    have k56 : K0 w5 w6 := kW3.trans (hN.kp _)
    refine ⟨k56, WrL_block c6 (by decide), fun w7 hP => ?_⟩
    have c7 := hP.full c6 rfl
    have k37 : K0 W3 w7 := put_k0 (hN.kp _) hP gn2
    have k57 := kW3.trans k37
    have k07 := kx.trans k57
    have c37 : w7.heap[n]? = some (.cells #[.string ⟨#[]⟩, .int .i64 0, .bool false, .slice none 0 0] 36 (0, 0)) := k57.blk cnx (fun h => h)
    have hne : n ≠ n2 := fun e => by have := block_lt cnx; have := kW3.size; omega
    refine ⟨.of_k0 k37, ?_⟩
    cases d with
    | none =>
      have hl : lineA s bf = .inl (x0, ⟨(numR b 2147483646).1, decide (c = ⟨#[110]⟩), []⟩) := by
        rw [hlin]; unfold lineW
        rw [if_neg (by simpa using hg), if_neg hno, if_neg (by simpa using h2), if_neg h3]
      refine bsp_intro (fun h => by simp at h) (fun _ => ⟨_, _, _, none, 0, 0, AtL_block c7 rfl, WrL_block c37 (by decide), fun w8 hP8 => ?_⟩)
      have c8 := hP8.full c37 rfl
      have k08 : K0 w w8 := put_k0 k07 hP8 gn
      refine ⟨put_kept hP8 (fun _ hm => by cases hm), _, _, _, none, 0, 0, AtL_block c8 rfl, ?_⟩
      unfold PLx
      rw [hl]
      exact ⟨⟨none, 0, rfl, RowA.nil, TyN.none⟩, k08⟩
    | some d =>
      have hdz : d.size ≤ 100000 := by have := hps d (by simp); omega
      refine bsp_intro (fun _ => nn_is hpp ⟨⟨by omega, by rw [hlen]; simp⟩, d, cell (kx2.trans k57) rfl, ?_⟩) (fun h => by simp at h)
      refine ⟨(acxintervals_any d (numR b 2147483646).1 w7 hdz ⟨u1, u2⟩).mono fun e w8 ⟨hm, k8⟩ => ?_⟩
      have k08 := k07.trans k8
      have c38 := k8.blk c37 (fun h => h)
      cases hiv : ivL (numR b 2147483646).1 (partsC 44 d) 1 with
      | none =>
        rw [hiv] at hm
        refine ⟨none, 0, 0, false, hm, .of_k0 k8, bsp_intro (fun _ => fail k08 c38 ?_ (by decide)) (fun h => by cases h)⟩
        rw [hlin]; unfold lineW
        rw [if_neg (by simpa using hg), if_neg hno, if_neg (by simpa using h2), if_neg h3]
        simp only
        rw [hiv]
      | some l =>
        rw [hiv] at hm
        obtain ⟨q, cc, he, hrow, hty⟩ := hm
        have hl : lineA s bf = .inl (x0, ⟨(numR b 2147483646).1, decide (c = ⟨#[110]⟩), l⟩) := by
          rw [hlin]; unfold lineW
          rw [if_neg (by simpa using hg), if_neg hno, if_neg (by simpa using h2), if_neg h3]
          simp only
          rw [hiv]
        have c28 := k8.blk c7 (fun h => h)
        refine ⟨q, l.length, cc, true, he, .of_k0 k8, bsp_intro (fun h => by cases h) (fun _ => ⟨⟨⟨_, by rw [cell_block c28]; rfl⟩, frozen_block c28 _⟩, fun w9 hP9 => ?_⟩)⟩
        have c29 : w9.heap[n2]? = some (.cells #[.string x0, .int .i64 (numR b 2147483646).1, .bool (decide (c = ⟨#[110]⟩)), .slice q l.length cc] 36 (0, 0)) := hP9.block c28
        have k39 : K0 W3 w9 := put_k0 (k37.trans k8) hP9 gn2
        have k09 : K0 w w9 := (kx.trans kW3).trans k39
        have c39 := hP9.blk c38 hne
        have hX9 : RngX w9 ⟨x0, ⟨(numR b 2147483646).1, decide (c = ⟨#[110]⟩), l⟩, q, cc⟩ := RngX.kpT ⟨hrow, hty⟩ hP9.kp (fun k c f hc e => by have e : k = n2 := e; subst e; exact blk_ne hc c28 rfl rfl)
        refine ⟨put_kept hP9 (fun _ hm => by cases hm), _, _, _, q, l.length, cc, AtL_block c29 rfl, WrL_block c39 (by decide), fun w10 hP10 => ?_⟩
        have c10 := hP10.full c39 rfl
        have k10 : K0 w w10 := put_k0 k09 hP10 gn
        refine ⟨put_kept hP10 (fun _ hm => by cases hm), _, _, _, q, l.length, cc, AtL_block c10 rfl, ?_⟩
        unfold PLx
        rw [hl]
        have hX := hX9.kpT hP10.kp (fun k c f hc e => by have e : k = n := e; subst e; exact blk_ne hc c39 rfl rfl)
        exact ⟨⟨q, cc, rfl, hX.row, hX.ty⟩, k10⟩
theorem ext_all27 (s : ByteArray) : s.extract 0 s.size = s := by simp
theorem parseA_end {f n : Nat} {s bf : ByteArray} {A : TA} (h : s.size = 0) : parseA (f + 1) s n bf A = .inl A := by
  show (if s.size = 0 then _ else _) = _
  rw [if_pos h]
theorem parseA_short {f n : Nat} {s bf : ByteArray} {A : TA} (h : s.size ≠ 0) (h2 : ¬ findC 10 s < s.size) : parseA (f + 1) s n bf A = .inr (n, 4) := by
  show (if s.size = 0 then _ else if ¬ findC 10 s < s.size then _ else _) = _
  rw [if_neg h, if_pos h2]
theorem parseA_line {f n : Nat} {s bf : ByteArray} {A : TA} (h : s.size ≠ 0) (h2 : findC 10 s < s.size) : parseA (f + 1) s n bf A = match lineA (s.extract 0 (findC 10 s)) bf with
    | .inr e => .inr (n, e)
    | .inl g => if 4096 < n then .inr (n, 9) else parseA f (s.extract (findC 10 s + 1) s.size) (n + 1) g.1 (A ++ [g]) := by
  show (if s.size = 0 then _ else if ¬ findC 10 s < s.size then _ else _) = _
  rw [if_neg h, if_neg (by simpa using h2)] <;> (cases lineA (s.extract 0 (findC 10 s)) bf <;> rfl)
set_option maxRecDepth 100000 in
set_option maxHeartbeats 8000000 in
theorem acxparse_any (s : ByteArray) (w : World) (hs : s.size ≤ 100000) :
    Calls Tryz.prog 14 #[.string s] w fun e w' => (match parseT s with
      | .inl A => ∃ p c R, e = .returned (.tuple #[.slice p R.length c, .int .i64 0, .int .i64 0]) ∧ R.map Rx.pr = A ∧ RowA lxC 4 w' p R ∧ ∀ x ∈ R, RngX w' x
      | .inr (n, er) => e = .returned (.tuple #[.slice none 0 0, .int .i64 (n : Nat), .int .i64 er])) ∧ K0 w w' := by
  refine vc_acxparse s w _ (bsp_intro (fun h => by simp at h; omega) (fun _ => ?_))
  refine ⟨fun vs w' => ∃ (R : List Rx) (p : Option Addr) (c : Nat) (bf : ByteArray) (a f : Nat), vs = [.int .i64 ((R.length + 1 : Nat) : Int), .slice p R.length c, .string bf, .int .i64 (a : Int)] ∧ a ≤ s.size ∧ parseT s = parseA f (s.extract a s.size) (R.length + 1) bf (R.map Rx.pr) ∧ s.size - a < f ∧ bf.size ≤ 100000 ∧ (bf.size = 0 ↔ R.length = 0) ∧ w'.ownsRow w.heap.size 36 4 (.slice p R.length c) R.length (R.flatMap lxC) ∧ (∀ x ∈ R, RngX w' x) ∧ R.length ≤ a ∧ K0 w w',
    fun vs _ => (match vs with | [_, _, _, .int _ a] => s.size - a.toNat | _ => 0), ⟨[], none, 0, ⟨#[]⟩, 0, s.size + 1, rfl, by omega, by rw [ext_all27]; rfl, by omega, by show 0 ≤ 100000; omega, ⟨fun _ => rfl, fun _ => rfl⟩, World.ownsRow_nil _ _ _ _, (fun x hx => by cases hx), by simp, .refl _ _⟩, ?_⟩
  rintro x1 p n1 c x2 x3 w1 ⟨R, p', c', bf, a, f, hv, ha, hE, hf, hbz, hb1, ho, hX, hRa, k1⟩
  simp only [List.cons.injEq, Value.int.injEq, Value.string.injEq, Value.slice.injEq, true_and, and_true] at hv
  obtain ⟨rfl, ⟨rfl, rfl, rfl⟩, rfl, rfl⟩ := hv
  obtain ⟨f, rfl⟩ : ∃ g, f = g + 1 := ⟨f - 1, by omega⟩
  have hesz : (s.extract a s.size).size = s.size - a := by rw [ByteArray.size_extract]; omega
  refine bsp_intro (fun hlt => ?_) (fun hge => ?_)
  · have hlt : a < s.size := by simpa using hlt
    refine ⟨fun vs w' => ∃ k : Nat, vs = [.int .i64 (k : Int)] ∧ a ≤ k ∧ k ≤ s.size ∧ (∀ j, a ≤ j → j < k → at8 s j ≠ 10) ∧ w' = w1, fun vs _ => (match vs with | .int _ a :: _ => s.size - a.toNat | _ => 0), ⟨a, rfl, by omega, by omega, (fun j h1 h2 => by omega), rfl⟩, ?_⟩
    rintro xk w2 ⟨k, hv, hak, hk, hno, hw⟩
    simp only [List.cons.injEq, Value.int.injEq, true_and, and_true] at hv
    subst hv
    subst hw
    have hI : ∀ j, j < k - a → at8 (s.extract a s.size) j ≠ (10 : Int) := fun j hj => by
      rw [T0.at8_extract s a s.size j (by omega) (Nat.le_refl _)]
      exact hno (a + j) (by omega) (by omega)
    rw [Int.toNat_natCast]
    refine ⟨gimp_intro fun h => ⟨by omega, by simpa using h⟩, bsp_intro (fun hc => ?_) (fun hc => ?_)⟩
    · simp only [Bool.and_eq_true, decide_eq_true_eq, bne_iff_ne, ne_eq] at hc
      obtain ⟨h1, h2⟩ := hc
      rw [inc64 (by omega)]
      refine ⟨⟨k + 1, rfl, by omega, by omega, fun j h3 h4 => ?_, rfl⟩, by simp only [Int.toNat_natCast]; omega⟩
      by_cases e : j = k
      · rw [e]; exact h2
      · exact hno j h3 (by omega)
    refine bsp_intro (fun he => ?_) (fun he => ?_)
    · have he : k = s.size := by simp at he; omega
      subst he
      have hfst : FirstC 10 (s.extract a s.size) 0 (s.size - a) := ⟨Nat.zero_le _, by omega, fun j _ hj => hI j (by omega), fun h => by omega⟩
      have hfe := hfst.uniq (findC_first 10 _)
      rw [hE, parseA_short (by omega) (by rw [← hfe]; omega)]
      exact ⟨rfl, k1⟩
    · have he : k < s.size := by
        have : ¬ (k : Int) = (s.size : Int) := by simpa using he
        omega
      have h10 : at8 s k = 10 := by
        rw [decide_eq_true (show (k : Int) < (s.size : Int) by omega)] at hc
        simpa using hc
      have hfst : FirstC 10 (s.extract a s.size) 0 (k - a) := ⟨Nat.zero_le _, by omega, fun j _ hj => hI j (by omega), fun h => by
        rw [T0.at8_extract s a s.size _ (by omega) (Nat.le_refl _), show a + (k - a) = k by omega]
        exact h10⟩
      have hfe := hfst.uniq (findC_first 10 _)
      have e1 : (s.extract a s.size).extract 0 (k - a) = s.extract a k := by rw [ByteArray.extract_extract]; congr 1; omega
      have e2 : (s.extract a s.size).extract (k - a + 1) (s.extract a s.size).size = s.extract (k + 1) s.size := by rw [hesz, ByteArray.extract_extract]; congr 1 <;> omega
      rw [parseA_line (by omega) (by rw [← hfe]; omega), ← hfe, e1, e2] at hE
      have hlz : (s.extract a k).size ≤ 100000 := by rw [ByteArray.size_extract]; omega
      have hone : ((((R.length + 1 : Nat) : Int) == 1) : Bool) = decide (x2.size = 0) := by
        rw [Bool.eq_iff_iff]
        simp only [beq_iff_eq, decide_eq_true_eq]
        omega
      rw [Int.toNat_natCast]
      refine ⟨⟨by omega, by omega, by omega⟩, ⟨(acxline_any (s.extract a k) x2 _ w2 hlz hbz hone).mono fun e w3 hP => ?_⟩⟩
      unfold PLx at hP
      obtain ⟨hP, k3⟩ := hP
      have k03 := k1.trans k3
      cases hl : lineA (s.extract a k) x2 with
      | inr er =>
        rw [hl] at hP hE
        obtain ⟨he0, he⟩ := hP
        refine ⟨_, _, _, _, _, _, _, he, .of_k0 k3, fun n2 => bsp_intro (fun h => by simp at h; exact absurd h.1 he0) (fun _ => bsp_intro (fun _ W hW => ?_) (fun h => by simp at h; exact absurd h he0))⟩
        rw [hE]
        exact ⟨rfl, hW.k0 k03⟩
      | inl g =>
        rw [hl] at hP hE
        obtain ⟨q, d, he, hrow, hty⟩ := hP
        obtain ⟨g1, g2, g3⟩ := lineA_ok hl
        have hgz := name_size g1.nm
        have hgp := (name_no g1.nm).1
        simp only at hE
        refine ⟨_, _, _, _, _, _, _, he, .of_k0 k3, fun n2 => bsp_intro (fun h9 W hW => ?_) (fun h9 => bsp_intro (fun h => by simp at h) (fun _ n3 W hW => ?_))⟩
        · have h9 : 4096 < R.length + 1 := by simp at h9; omega
          rw [if_pos h9] at hE
          rw [hE]
          exact ⟨rfl, hW.k0 k03⟩
        have h9 : ¬ 4096 < R.length + 1 := by simp at h9; omega
        rw [if_neg h9] at hE
        have kW : K0 w3 W := hW.kk rfl
        have gn2 : w3.heap.size ≤ n2 := hW.fresh 1 rfl rfl
        have k2W := k3.trans kW
        have hoW := owns_kp ho k2W (fun _ _ h => h)
        refine ⟨_, _, hoW, by omega, by omega, Nat.le_trans k1.size k2W.size, fun p6 c6 w6 ho6 hg6 _ => ⟨.of_kp (kp_grown hg6) (fun n hn e => ?_), fun W6 hW6 => ?_⟩⟩
        · have h1 := (ho.lt n e).2
          have h2 := k3.size
          simp only [List.mem_cons, List.not_mem_nil, or_false] at hn
          omega
        have kg := kp_grown hg6
        have k06 : K0 w w6 := (k1.trans k2W).fresh kg (fun j hj e => by have := own_ge hoW e; omega)
        have k66 : K0 w6 W6 := hW6.kk rfl
        have ho7 := owns_kp ho6 k66 (fun _ _ h => h)
        have hm : ∀ k cs f, W.heap[k]? = some (.cells cs 38 f) → ¬ ((Value.slice p R.length c).ownBlock = some k) := fun k cs f hc => own_not hoW hc rfl
        have hXn : RngX W6 ⟨g.1, g.2, q, d⟩ := (RngX.kpT (RngX.k0 ⟨hrow, hty⟩ kW) kg hm).k0 k66
        have hXo : ∀ x ∈ R, RngX W6 x := fun x hx => (RngX.kpT ((hX x hx).k0 k2W) kg hm).k0 k66
        rw [inc64 (by omega), inc64 (by omega)]
        refine ⟨⟨R ++ [⟨g.1, g.2, q, d⟩], p6, c6, g.1, k + 1, f, by rw [List.length_append, List.length_singleton], by omega, ?_, by omega, by omega, ?_, ?_, fun x hx => ?_, ?_, k06.trans k66⟩, by simp only [Int.toNat_natCast]; omega⟩
        · rw [hE, List.length_append, List.length_singleton, List.map_append]; rfl
        · rw [List.length_append, List.length_singleton]; omega
        · rw [List.length_append, List.length_singleton, List.flatMap_append]
          exact ho7
        · rcases List.mem_append.1 hx with hx | hx
          · exact hXo x hx
          · rw [List.mem_singleton.1 hx]; exact hXn
        · rw [List.length_append, List.length_singleton]; omega
  · have hge : a = s.size := by simp at hge; omega
    rw [hE, parseA_end (by omega)]
    exact ⟨⟨p, _, R, rfl, rfl, RowA.own ho lxC_length (by decide), hX⟩, k1⟩

end Go.Proofs.YtgmmoghagpmpfaaGreatDoor

/- The formulas of functions by the symbolic evaluator, and that each gives the call's contract. Written by a program (gen.py). No condition. -/
namespace Go.Proofs.YtgmmoghagpmpfaaGreatDoor
set_option maxRecDepth 100000
set_option linter.unusedVariables false

def VC_aclparses (s : ByteArray) (w : World) (R : Ending → World → Prop) : Prop :=
 ((0 ≤ if 3000 < (↑s.size : Int) then 3000 else (↑s.size : Int)) ∧
 (if 3000 < (↑s.size : Int) then 3000 else (↑s.size : Int)) ≤ (↑s.size : Int)) ∧
 CallsS Tryz.prog 13 #[Value.string (s.extract 0 (if 3000 < (↑s.size : Int) then 3000 else (↑s.size : Int)).toNat)] w
 fun (e : Ending) (w' : World) =>
 ∃ (x : Option Addr),
 ∃ (x_1 : Int),
 ∃ (x_2 : Int),
 e = Ending.returned (Value.tuple #[Value.pointer x, Value.int IntKind.i64 x_1, Value.int IntKind.i64 x_2]) ∧
 KeptL [] w w' ∧
 CallsS Tryz.prog 14
 #[Value.string (s.extract 0 (if 3000 < (↑s.size : Int) then 3000 else (↑s.size : Int)).toNat)] w'
 fun (e : Ending) (w'_1 : World) =>
 ∃ (p : Option Addr),
 ∃ (n : Nat),
 ∃ (c : Nat),
 ∃ (x_3 : Int),
 ∃ (x_4 : Int),
 e =
 Ending.returned
 (Value.tuple #[Value.slice p n c, Value.int IntKind.i64 x_3, Value.int IntKind.i64 x_4]) ∧
 KeptL [] w' w'_1 ∧
 CallsS Tryz.prog 15 #[] w'_1 fun (e : Ending) (w' : World) =>
 ∃ (x_5 : Bool),
 e = Ending.returned (Value.bool x_5) ∧
 KeptL [] w'_1 w' ∧
 bsp (!x_5 || x_1 != x_3 || x_2 != x_4 || !x.isNone == (x_4 != 0))
 (R (Ending.returned (Value.bool false)) w')
 (bsp (x_4 != 0) (R (Ending.returned (Value.bool true)) w')
 (∃ (I : List Value → World → Prop),
 ∃ (m : List Value → World → Nat),
 I [Value.int IntKind.i64 0] w' ∧
 ∀ (x_6 : Int) (w' : World),
 I [Value.int IntKind.i64 x_6] w' →
 bsp (decide (x_6 < (↑n : Int)))
 (nn true p fun (b o : Nat) =>
 (0 ≤ x_6 ∧ x_6 < (↑n : Int)) ∧
 ∃ (x_7 : ByteArray),
 w'.cell? (Addr.mk b (o + x_6.toNat * 4) none) = some (Value.string x_7) ∧
 CallsS Tryz.prog 16 #[Value.pointer x, Value.string x_7] w'
 fun (e : Ending) (w'_2 : World) =>
 ∃ (x : ByteArray),
 ∃ (x_8 : Int),
 ∃ (x_9 : Int),
 ∃ (x_10 : Int),
 ∃ (x_11 : Bool),
 ∃ (x_12 : Int),
 e =
 Ending.returned
 (Value.tuple
 #[Value.agg
 #[Value.string x, Value.int IntKind.i64 x_8, Value.int IntKind.i64 x_9,
 Value.int IntKind.i64 x_10, Value.bool x_11],
 Value.int IntKind.i64 x_12]) ∧
 KeptL [] w' w'_2 ∧
 ∀ (n_1 : Nat),
 nn true p fun (b o : Nat) =>
 (0 ≤ x_6 ∧ x_6 < (↑n : Int)) ∧
 ∃ (x_13 : Int),
 (∀ (W : World),
 Loc w.heap.size
 [Blk.mk n_1 31
 [Value.string x, Value.int IntKind.i64 x_8, Value.int IntKind.i64 x_9,
 Value.int IntKind.i64 x_10, Value.bool x_11]
 (wrM 2)]
 w'_2 W →
 W.cell? (Addr.mk b (o + x_6.toNat * 4 + 1) none) =
 some (Value.int IntKind.i64 x_13)) ∧
 nn true p fun (b o : Nat) =>
 (0 ≤ x_6 ∧ x_6 < (↑n : Int)) ∧
 ∃ (p_1 : Option Addr),
 ∃ (n_2 : Nat),
 ∃ (c : Nat),
 (∀ (W : World),
 Loc w.heap.size
 [Blk.mk n_1 31
 [Value.string x, Value.int IntKind.i64 x_8,
 Value.int IntKind.i64 x_9, Value.int IntKind.i64 x_10,
 Value.bool x_11]
 (wrM 2)]
 w'_2 W →
 W.cell? (Addr.mk b (o + x_6.toNat * 4 + 3) none) =
 some (Value.slice p_1 n_2 c)) ∧
 ∀ (W : World),
 Loc w.heap.size
 [Blk.mk n_1 31
 [Value.string x, Value.int IntKind.i64 x_8,
 Value.int IntKind.i64 x_9, Value.int IntKind.i64 x_10,
 Value.bool x_11]
 (wrM 2)]
 w'_2 W →
 ∃ (I_1 : List Value → World → Prop),
 ∃ (m_1 : List Value → World → Nat),
 I_1
 [Value.int IntKind.i64 (IntKind.i64.wrap ((↑n_2 : Int) - 1)),
 Value.int IntKind.i64 0,
 Value.int IntKind.i64 (IntKind.i64.wrap (x_13 + 1))]
 W ∧
 ∀ (x_14 x_15 x_16 : Int) (w'_3 : World),
 I_1
 [Value.int IntKind.i64 x_14, Value.int IntKind.i64 x_15,
 Value.int IntKind.i64 x_16]
 w'_3 →
 Loc w.heap.size
 [Blk.mk n_1 31
 [Value.string x, Value.int IntKind.i64 x_8,
 Value.int IntKind.i64 x_9, Value.int IntKind.i64 x_10,
 Value.bool x_11]
 0]
 w'_3 w'_3 →
 bsp (decide (x_14 ≥ 0))
 (nn true p fun (b o : Nat) =>
 (0 ≤ x_6 ∧ x_6 < (↑n : Int)) ∧
 ∃ (p_2 : Option Addr),
 ∃ (n_3 : Nat),
 ∃ (c : Nat),
 w'_3.cell? (Addr.mk b (o + x_6.toNat * 4 + 3) none) =
 some (Value.slice p_2 n_3 c) ∧
 nn true p_2 fun (b o : Nat) =>
 (0 ≤ x_14 ∧ x_14 < (↑n_3 : Int)) ∧
 ∃ (x : Int),
 w'_3.cell? (Addr.mk b (o + x_14.toNat * 2) none) =
 some (Value.int IntKind.i64 x) ∧
 nn true p fun (b o : Nat) =>
 (0 ≤ x_6 ∧ x_6 < (↑n : Int)) ∧
 ∃ (p : Option Addr),
 ∃ (n : Nat),
 ∃ (c : Nat),
 w'_3.cell?
 (Addr.mk b (o + x_6.toNat * 4 + 3) none) =
 some (Value.slice p n c) ∧
 nn true p fun (b o : Nat) =>
 (0 ≤ x_14 ∧ x_14 < (↑n : Int)) ∧
 ∃ (x_17 : Int),
 w'_3.cell?
 (Addr.mk b (o + x_14.toNat * 2 + 1)
 none) =
 some (Value.int IntKind.i64 x_17) ∧
 I_1
 [Value.int IntKind.i64
 (IntKind.i64.wrap (x_14 - 1)),
 Value.int IntKind.i64
 (IntKind.i64.wrap
 (x_15 +
 IntKind.i64.wrap
 (IntKind.i64.wrap (x_17 - x) +
 1))),
 Value.int IntKind.i64 x]
 w'_3 ∧
 m_1
 [Value.int IntKind.i64
 (IntKind.i64.wrap (x_14 - 1)),
 Value.int IntKind.i64
 (IntKind.i64.wrap
 (x_15 +
 IntKind.i64.wrap
 (IntKind.i64.wrap (x_17 - x) +
 1))),
 Value.int IntKind.i64 x]
 w'_3 <
 m_1
 [Value.int IntKind.i64 x_14,
 Value.int IntKind.i64 x_15,
 Value.int IntKind.i64 x_16]
 w'_3)
 (nn (!x_12 != 0) p fun (b o : Nat) =>
 gimp (!x_12 != 0) (0 ≤ x_6 ∧ x_6 < (↑n : Int)) ∧
 ∃ (x_17 : ByteArray),
 gimp (!x_12 != 0)
 (∀ (W : World),
 Loc w.heap.size
 [Blk.mk n_1 31
 [Value.string x, Value.int IntKind.i64 x_8,
 Value.int IntKind.i64 x_9,
 Value.int IntKind.i64 x_10, Value.bool x_11]
 0]
 w'_3 W →
 W.cell? (Addr.mk b (o + x_6.toNat * 4) none) =
 some (Value.string x_17)) ∧
 nn (!x_12 != 0) p fun (b o : Nat) =>
 gimp (!x_12 != 0) (0 ≤ x_6 ∧ x_6 < (↑n : Int)) ∧
 ∃ (x_18 : Int),
 gimp (!x_12 != 0)
 (∀ (W : World),
 Loc w.heap.size
 [Blk.mk n_1 31
 [Value.string x, Value.int IntKind.i64 x_8,
 Value.int IntKind.i64 x_9,
 Value.int IntKind.i64 x_10, Value.bool x_11]
 0]
 w'_3 W →
 W.cell?
 (Addr.mk b (o + x_6.toNat * 4 + 1) none) =
 some (Value.int IntKind.i64 x_18)) ∧
 nn (!x_12 != 0) p fun (b o : Nat) =>
 gimp (!x_12 != 0) (0 ≤ x_6 ∧ x_6 < (↑n : Int)) ∧
 ∃ (x_19 : Bool),
 gimp (!x_12 != 0)
 (∀ (W : World),
 Loc w.heap.size
 [Blk.mk n_1 31
 [Value.string x,
 Value.int IntKind.i64 x_8,
 Value.int IntKind.i64 x_9,
 Value.int IntKind.i64 x_10,
 Value.bool x_11]
 0]
 w'_3 W →
 W.cell?
 (Addr.mk b (o + x_6.toNat * 4 + 2) none) =
 some (Value.bool x_19)) ∧
 ∃ (r : Bool),
 gimp (!x_12 != 0)
 (EqP Tryz.prog 31
 (Value.agg
 #[Value.string x,
 Value.int IntKind.i64 x_8,
 Value.int IntKind.i64 x_9,
 Value.int IntKind.i64 x_10,
 Value.bool x_11])
 (Value.agg
 #[Value.string x_17,
 Value.int IntKind.i64 x_16,
 Value.int IntKind.i64 x_18,
 Value.int IntKind.i64 x_15,
 Value.bool x_19])
 r) ∧
 bsp (x_12 != 0 || !r)
 (∀ (W : World),
 Loc w.heap.size
 [Blk.mk n_1 31
 [Value.string x,
 Value.int IntKind.i64 x_8,
 Value.int IntKind.i64 x_9,
 Value.int IntKind.i64 x_10,
 Value.bool x_11]
 0]
 w'_3 W →
 R (Ending.returned (Value.bool false)) W)
 (∀ (W : World),
 Loc w.heap.size
 [Blk.mk n_1 31
 [Value.string x,
 Value.int IntKind.i64 x_8,
 Value.int IntKind.i64 x_9,
 Value.int IntKind.i64 x_10,
 Value.bool x_11]
 0]
 w'_3 W →
 I
 [Value.int IntKind.i64
 (IntKind.i64.wrap (x_6 + 1))]
 W ∧
 m
 [Value.int IntKind.i64
 (IntKind.i64.wrap (x_6 + 1))]
 W <
 m [Value.int IntKind.i64 x_6] w')))
 (CallsS Tryz.prog 17 #[Value.pointer x] w' fun (e : Ending) (w'_2 : World) =>
 ∃ (x_7 : ByteArray),
 e = Ending.returned (Value.string x_7) ∧
 KeptL [] w' w'_2 ∧
 bsp
 (x_7.toList ==
 (s.extract 0 (if 3000 < (↑s.size : Int) then 3000 else (↑s.size : Int)).toNat).toList)
 (CallsS Tryz.prog 18 #[Value.pointer x] w'_2 fun (e : Ending) (w' : World) =>
 ∃ (p : Option Addr),
 ∃ (n_1 : Nat),
 ∃ (c : Nat),
 e = Ending.returned (Value.slice p n_1 c) ∧
 KeptL [] w'_2 w' ∧
 R (Ending.returned (Value.bool (true && (↑n_1 : Int) == (↑n : Int)))) w')
 (KeptL [] w'_2 w'_2 ∧ R (Ending.returned (Value.bool false)) w'_2))))
theorem vc_aclparses (s : ByteArray) (w : World) (R : Ending → World → Prop) (h : VC_aclparses s w R) : Calls Tryz.prog 3 ([Value.string
    s] : List Value).toArray w R := by
  have e : execR2 { P := Tryz.prog, loops := [(9, [(9, Ck.int IntKind.i64)]), (14, [(14, Ck.int IntKind.i64), (13, Ck.int IntKind.i64), (12, Ck.int IntKind.i64)])], pur := pur1, tails := [], joins := [], boxes := [] } Tryz.f3.results.toList R (Tryz.f3.body.getD .skip) (initF [Value.string
    s] (Tryz.f3.ntmps - ([Value.string s] : List Value).length)) w = VC_aclparses s w R := by kernel_rfl
  have hb : Tryz.f3.body = some (Tryz.f3.body.getD .skip) := by kernel_rfl
  exact calls_of_exec2' (P := Tryz.prog) (fn := Tryz.f3) (c := Tryz.f3.body.getD .skip) (args := [Value.string
    s]) (w := w) (R := R) pur1_ok Tryz.func3 hb e h

end Go.Proofs.YtgmmoghagpmpfaaGreatDoor

/- Chapter 27: ActiveParses on worlds. The library's variable MaxLen holds a number, its table of powers of ten reads as laid. -/
namespace Go.Proofs.YtgmmoghagpmpfaaGreatDoor
open Go.RowKit Go.Sort Go.Maps

theorem IvS.drop27 {hi : Int} : ∀ {lo : Int} {l : List Iv} (j : Nat), IvS hi lo l → IvS hi lo (l.drop j)
  | _, _, 0, h => h
  | _, [], _ + 1, _ => trivial
  | _, _ :: _, j + 1, h => IvS.mono (Int.le_refl _) (by have := h.1; have := h.2.1; omega) (IvS.drop27 j h.2.2.2)
theorem cnt_le {hi : Int} {l : List Iv} (h : IvS hi 1 l) (h0 : 0 ≤ hi) : 0 ≤ cntI l ∧ cntI l ≤ hi := by
  have h1 := cntI_ref (v := ⟨hi, false, l⟩) h
  have h2 := ivs_size h (by omega) (by omega)
  simp only at h1
  omega
theorem cnt_cons (x : Iv) (t : List Iv) : cntI (x :: t) = (x.b - x.a + 1) + cntI t := by unfold cntI; simp
set_option maxHeartbeats 4000000 in
theorem lacparses_any (s : ByteArray) (_hs : s.size ≤ 4611686018427387904) (w : World) (hG : GW w) (hGT : GT w) :
    Calls Tryz.prog 3 #[.string s] w fun e w' => e = .returned (.bool true) ∧ K0 w w' := by
  refine vc_aclparses s w _ ⟨⟨by split <;> omega, by split <;> omega⟩, ?_⟩
  have hz : (s.extract 0 (if (3000 : Int) < (s.size : Int) then (3000 : Int) else (s.size : Int)).toNat).size ≤ 3000 := by rw [ByteArray.size_extract]; split <;> omega
  generalize s.extract 0 (if (3000 : Int) < (s.size : Int) then (3000 : Int) else (s.size : Int)).toNat = t at hz ⊢
  refine ⟨(acparse_any t w (by omega) (gw_lt hG) hG).mono fun e w1 hP => ?_⟩
  obtain ⟨hP, k1⟩ := hP
  cases hp : parseT t with
  | inr ne =>
    obtain ⟨n, er⟩ := ne
    rw [hp] at hP
    obtain ⟨he, hne⟩ := hP
    refine ⟨_, _, _, he, .of_k0 k1, ⟨(acxparse_any t w1 (by omega)).mono fun e w2 hQ => ?_⟩⟩
    rw [hp] at hQ
    obtain ⟨he, k2⟩ := hQ
    refine ⟨_, _, _, _, _, he, .of_k0 k2, ⟨(acknown_any w2 (gk0 hG (k1.trans k2)) (hGT.k0 (k1.trans k2))).mono fun e w3 ⟨he, k3⟩ => ⟨_, he, .of_k0 k3, bsp_intro (fun h => ?_) (fun _ => bsp_intro (fun _ => ⟨rfl, (k1.trans k2).trans k3⟩) (fun h => ?_))⟩⟩⟩
    · have : (er != 0) = true := by simpa using hne
      rw [this] at h
      simp at h
    · have : er = 0 := by simpa using h
      exact absurd this hne
  | inl A =>
    rw [hp] at hP
    obtain ⟨b, mb, m, he, hq⟩ := hP
    refine ⟨_, _, _, he, .of_k0 k1, ⟨(acxparse_any t w1 (by omega)).mono fun e w2 hQ => ?_⟩⟩
    rw [hp] at hQ
    obtain ⟨⟨p, c, R, he, hRA, hrow, hX⟩, k2⟩ := hQ
    have k02 := k1.trans k2
    refine ⟨_, _, _, _, _, he, .of_k0 k2, ⟨(acknown_any w2 (gk0 hG k02) (hGT.k0 k02)).mono fun e w3 ⟨he, k3⟩ => ⟨_, he, .of_k0 k3, bsp_intro (fun h => by simp at h) (fun _ => bsp_intro (fun h => by simp at h) (fun _ => ?_))⟩⟩⟩
    obtain ⟨hwf, hlen, hpt⟩ := parse_ok hp
    have hRl : R.length = A.length := by rw [← hRA, List.length_map]
    have k13 := k2.trans k3
    have k03 := k1.trans k13
    refine ⟨fun vs w' => ∃ i : Nat, vs = [.int .i64 (i : Int)] ∧ i ≤ R.length ∧ K0 w3 w', fun vs _ => (match vs with | .int _ a :: _ => R.length - a.toNat | _ => 0), ⟨0, rfl, by omega, .refl _ _⟩, ?_⟩
    rintro xi w4 ⟨i, hv, hi, k4⟩
    simp only [List.cons.injEq, Value.int.injEq, true_and, and_true] at hv
    subst hv
    have k04 := k03.trans k4
    refine bsp_intro (fun hlt => ?_) (fun hge => ?_)
    · have hlt : i < R.length := by simpa using hlt
      obtain ⟨x, bb, o, hx, hpp, hat⟩ := (hrow.k0 (k3.trans k4)).get hlt
      have hmx := List.mem_of_getElem? hx
      have hxA : A[i]? = some (x.s, x.v) := by rw [← hRA, List.getElem?_map, hx]; rfl
      have hg : aget A x.s = some x.v := aget_at hwf.dis (List.mem_of_getElem? hxA)
      obtain ⟨hnm, hh0, hh1, hiv⟩ := hwf.get hg
      have hzs := name_size hnm
      have hll := ivs_len hiv
      have hls := ivs_size hiv (by omega) (by omega)
      rw [Int.toNat_natCast]
      refine nn_is hpp ⟨⟨by omega, by omega⟩, x.s, hat.cell (j := 0) rfl, ⟨(acget_any (hq.k0 (k13.trans k4)) x.s (by omega)).mono fun e w5 ⟨he, k5⟩ => ?_⟩⟩
      rw [hg] at he
      refine ⟨_, _, _, _, _, _, he, .of_k0 k5, fun n1 => nn_is hpp ⟨⟨by omega, by omega⟩, x.v.h, fun W hW => (hat.k0 (k5.trans (hW.kk rfl))).cell (j := 1) rfl, nn_is hpp ⟨⟨by omega, by omega⟩, x.q, x.v.l.length, x.d, fun W hW => (hat.k0 (k5.trans (hW.kk rfl))).cell (j := 3) rfl, fun W hW => ?_⟩⟩⟩
      have kW : K0 w5 W := hW.kk rfl
      have k4W := k5.trans kW
      refine ⟨fun vs w' => ∃ j : Nat, vs = [.int .i64 ((j : Int) - 1), .int .i64 (cntI (x.v.l.drop j)), .int .i64 (lowI ⟨x.v.h, x.v.c, x.v.l.drop j⟩)] ∧ j ≤ x.v.l.length ∧ K0 W w', fun vs _ => (match vs with | .int _ a :: _ => (a + 1).toNat | _ => 0), ⟨x.v.l.length, by rw [List.drop_length, wr64 (by omega) (by omega), wr64 (by omega) (by omega)]; rfl, Nat.le_refl _, .refl _ _⟩, ?_⟩
      rintro y1 y2 y3 w6 ⟨j, hv, hj, k6⟩ hL6
      simp only [List.cons.injEq, Value.int.injEq, true_and, and_true] at hv
      obtain ⟨rfl, rfl, rfl⟩ := hv
      have k46 := k4W.trans k6
      have hat6 := hat.k0 k46
      refine bsp_intro (fun hb => ?_) (fun hb => ?_)
      · have hb : 1 ≤ j := by simp at hb; omega
        obtain ⟨k, rfl⟩ : ∃ k, j = k + 1 := ⟨j - 1, by omega⟩
        have hX6 := (hX x hmx).k0 ((k3.trans k4).trans k46)
        obtain ⟨y, yb, yo, hy, hpy, hay⟩ := hX6.row.get (k := k) hj
        have hdr := drop_cons27 hy
        have hmy := hiv.mem y (List.mem_of_getElem? hy)
        have hd1 := cnt_le (hiv.drop27 k) hh0
        have hd2 := cnt_le (hiv.drop27 (k + 1)) hh0
        rw [hdr, cnt_cons] at hd1
        rw [show ((k + 1 : Nat) : Int) - 1 = (k : Int) by omega, Int.toNat_natCast]
        refine nn_is hpp ⟨⟨by omega, by omega⟩, x.q, x.v.l.length, x.d, hat6.cell (j := 3) rfl, nn_is hpy ⟨⟨by omega, by omega⟩, y.a, hay.cell (j := 0) rfl, nn_is hpp ⟨⟨by omega, by omega⟩, x.q, x.v.l.length, x.d, hat6.cell (j := 3) rfl, nn_is hpy ⟨⟨by omega, by omega⟩, y.b, hay.cell (j := 1) rfl, ?_⟩⟩⟩⟩
        rw [wr64 (x := y.b - y.a) (by omega) (by omega), wr64 (x := y.b - y.a + 1) (by omega) (by omega), wr64 (x := (k : Int) - 1) (by omega) (by omega), wr64 (x := cntI (x.v.l.drop (k + 1)) + (y.b - y.a + 1)) (by omega) (by omega)]
        refine ⟨⟨k, ?_, by omega, k6⟩, by simp only; omega⟩
        rw [hdr, cnt_cons, Int.add_comm (cntI _)]
        rfl
      · have hb : j = 0 := by simp at hb; omega
        subst hb
        have e1 : lowI ⟨x.v.h, x.v.c, x.v.l.drop 0⟩ = lowI x.v := rfl
        have e2 : cntI (x.v.l.drop 0) = (((exI x.v.l).length : Nat) : Int) := cntI_ref hiv
        rw [e1, e2]
        refine nn_is hpp ⟨gimp_intro fun _ => ⟨by omega, by omega⟩, x.s, gimp_intro fun _ W2 hW2 => (hat6.k0 (hW2.kk rfl)).cell (j := 0) rfl, nn_is hpp ⟨gimp_intro fun _ => ⟨by omega, by omega⟩, x.v.h, gimp_intro fun _ W2 hW2 => (hat6.k0 (hW2.kk rfl)).cell (j := 1) rfl, nn_is hpp ⟨gimp_intro fun _ => ⟨by omega, by omega⟩, x.v.c, gimp_intro fun _ W2 hW2 => (hat6.k0 (hW2.kk rfl)).cell (j := 2) rfl, _, gimp_intro fun _ => grEq27 x.s x.s _ _ _ _ _ _ _ _, bsp_intro (fun hb => ?_) (fun _ W2 hW2 => ?_)⟩⟩⟩
        · simp at hb
        · rw [inc64 (by omega)]
          exact ⟨⟨i + 1, rfl, hlt, k4.trans (k46.trans (hW2.kk rfl))⟩, by simp only [Int.toNat_natCast]; omega⟩
    · have hvl : ∀ p ∈ A, p.2.l.length ≤ 1000000 := fun p hp => by
        have := prT_ranges (fun q hq => hwf.ln hq) p hp
        rw [hpt] at this
        omega
      refine ⟨(acprint_any (hq.k0 (k13.trans k4)) (gk0 hG k04) (hGT.k0 k04) hvl).mono fun e w5 ⟨he, k5⟩ => ⟨_, he, .of_k0 k5, bsp_intro (fun _ => ?_) (fun h => ?_)⟩⟩
      · have k05 := k04.trans k5
        refine ⟨(acgroups_any (hq.k0 ((k13.trans k4).trans k5)) (gk0 hG k05)).mono fun e w6 ⟨⟨p1, c1, he, ho⟩, k6⟩ => ⟨_, _, _, he, .of_k0 k6, ?_, k05.trans k6⟩⟩
        rw [List.length_map, hRl]
        simp
      · rw [hpt] at h
        simp at h

end Go.Proofs.YtgmmoghagpmpfaaGreatDoor
