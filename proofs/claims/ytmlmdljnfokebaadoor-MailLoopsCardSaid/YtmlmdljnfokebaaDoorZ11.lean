/- Chapter 49: addresses: ParseAddress, the reference's user, site, Text, Address; MailAddresses on worlds. -/
import Derived.Test.YtmlmdljnfokebaaDoorZ09
import Derived.Test.YtmlmdljnfokebaaDoorZ10
import Derived.Test.YtmlmdljnfokebaaDoorZ07
import Derived.WalkKit
import Derived.Laws.IdiomStrings
import Derived.Deep.RegionWith
import Derived.Shelf.RegionOpenPlain
import Derived.Handy
namespace Go.Proofs.YtmlmdljnfokebaaDoor
open Go.RowKit

/-- The library's variable MaxLen holds a number. -/
def GX (w : World) : Prop := ∃ m, w.cell? ⟨0, 0, none⟩ = some (.int .i64 m)
theorem GX.k0 {w w' : World} (h : GX w) (hk : K0 w w') : GX w' := by
  obtain ⟨m, h⟩ := h; exact ⟨m, hk.cell' h (fun h => h)⟩

/-! ### Plain -/
def cntAt (s : ByteArray) : Nat := Lib.countByte s.data.toList 64
/-- The address that a text denotes, and the error. -/
def adrP (s : ByteArray) : (ByteArray × ByteArray) × Int :=
  if cntAt s ≠ 1 then ((⟨#[]⟩, ⟨#[]⟩), 3) else if userB (s.extract 0 (findC 64 s)) = false then ((⟨#[]⟩, ⟨#[]⟩), 12) else
  if siteE (s.extract (findC 64 s + 1) s.size) ≠ 0 then ((⟨#[]⟩, ⟨#[]⟩), siteE (s.extract (findC 64 s + 1) s.size)) else ((s.extract 0 (findC 64 s), s.extract (findC 64 s + 1) s.size), 0)
theorem cnt_step {s : ByteArray} {i : Nat} (h : i < s.size) : Lib.countByte (s.data.toList.take (i + 1)) 64 = Lib.countByte (s.data.toList.take i) 64 + (if at8 s i = 64 then 1 else 0) := by
  unfold Lib.countByte
  rw [List.take_add_one, at8_byte h, List.count_append]
  congr 1
  have := u8C 64 (at8_bd s i).1 (at8_bd s i).2
  by_cases e : at8 s i = 64
  · rw [if_pos e, this.2 e]; rfl
  · rw [if_neg e]
    have h1 : ¬ (at8 s i).toNat.toUInt8 = 64 := fun h => e (this.1 h)
    show List.count 64 [(at8 s i).toNat.toUInt8] = 0
    rw [List.count_singleton]
    simp [h1]
theorem cnt_one {s : ByteArray} (h : cntAt s = 1) : findC 64 s < s.size := by
  have hf := findC_first 64 s
  rcases Nat.lt_or_ge (findC 64 s) s.size with h' | h'
  · exact h'
  · exfalso
    have he : findC 64 s = s.size := by have := hf.2.1; omega
    have h0 : cntAt s = 0 := by
      unfold cntAt Lib.countByte
      rw [List.count_eq_zero]
      intro hm
      obtain ⟨j, hj, e⟩ := List.getElem_of_mem hm
      have hj' : j < s.size := by simpa using hj
      have := (getC 64).1 (show s.data.toList[j]? = some 64 by rw [List.getElem?_eq_getElem hj, e])
      exact hf.2.2.1 j (by omega) (by omega) this.2
    omega
theorem ext_all (s : ByteArray) : (⟨s.data.toList.toArray⟩ : ByteArray) = s := by simp

/-! ### The program's -/
theorem mparse_any (s : ByteArray) (w : World) (hs : s.size ≤ 1073741824) (hG : GX w) :
    Calls Tryd.prog 19 #[.string s] w fun e w' => e = .returned (.tuple #[.agg #[.string (adrP s).1.1, .string (adrP s).1.2], .int .i64 (adrP s).2]) ∧ K0 w w' := by
  refine vc_mparse s w _ (fun n W hW => ?_)
  have kW : K0 w W := hW.kk rfl
  unfold adrP
  refine ⟨(Tryd.strings_Count_one s 64 W).mono fun e w1 ⟨he, hw⟩ => ⟨_, he, ?_⟩⟩
  subst hw
  refine ⟨.refl _ _, bsp_intro (fun h => fun W2 hW2 => ?_) (fun h => ?_)⟩
  · have h : cntAt s ≠ 1 := by simp at h; unfold cntAt; omega
    rw [if_pos h]; exact ⟨rfl, hW2.k0 kW⟩
  have h1 : cntAt s = 1 := by simp at h; unfold cntAt; omega
  rw [if_neg (by omega)]
  have hlt := cnt_one h1
  have hf := findC_first 64 s
  have hcut := cut_hit hf hlt
  obtain ⟨mm, hG1⟩ := hG.k0 kW
  refine ⟨(Tryd.strings_Cut s ⟨#[64]⟩ mm w1 (by omega) hG1).mono fun e w2 ⟨he, k, hw⟩ => ?_⟩
  rw [show (⟨#[64]⟩ : ByteArray).data.toList = [64] from rfl, hcut] at he
  simp only [ext_all] at he
  have k2 : K0 w1 w2 := by rw [hw]; exact ⟨rfl, rfl, rfl, Nat.le_refl _, fun _ _ _ => rfl⟩
  generalize s.extract 0 (findC 64 s) = u at *
  generalize s.extract (findC 64 s + 1) s.size = t at *
  refine ⟨_, _, _, he, .of_k0 k2, ?_⟩
  refine ⟨(user_any u w2).mono fun e w3 ⟨he, k3⟩ => ⟨_, he, .of_k0 k3, bsp_intro (fun h => fun W2 hW2 => ?_) (fun h => ?_)⟩⟩
  · rw [if_pos (by simpa using h)]; exact ⟨rfl, hW2.k0 ((kW.trans k2).trans k3)⟩
  rw [if_neg (by simpa using h)]
  refine ⟨(siteK_any t w3).mono fun e w4 ⟨he, k4⟩ => ⟨_, _, he, .of_k0 k4, bsp_intro (fun h => fun W2 hW2 => ?_) (fun h => fun W2 hW2 => ?_)⟩⟩
  · rw [if_pos (show siteE t ≠ 0 by simpa [siteE] using h)]; exact ⟨rfl, hW2.k0 (((kW.trans k2).trans k3).trans k4)⟩
  · rw [if_neg (show ¬ siteE t ≠ 0 by simpa [siteE] using h)]; exact ⟨rfl, hW2.k0 (((kW.trans k2).trans k3).trans k4)⟩

/-! ### The reference's -/
theorem xuser_any (s : ByteArray) (w : World) (hs : s.size ≤ 4611686018427387904) :
    Calls Tryd.prog 39 #[.string s] w fun e w' => e = .returned (.bool (userB s)) ∧ K0 w w' := by
  refine vc_xuser s w _ ?_
  refine ⟨fun vs w' => ∃ i : Nat, vs = [.int .i64 (i : Int)] ∧ i ≤ s.size ∧ (∀ j, j < i → userC (at8 s j) = true) ∧ K0 w w',
    fun vs _ => (match vs with | .int _ x :: _ => s.size - x.toNat | _ => 0), ⟨0, rfl, by omega, (fun j h => by omega), .refl _ _⟩, ?_⟩
  rintro x w1 ⟨i, hv, hi, hall, k1⟩
  simp only [List.cons.injEq, Value.int.injEq, true_and, and_true] at hv
  subst hv
  refine bsp_intro (fun hlt => ?_) (fun hge => ?_)
  · have hlt : i < s.size := by simp at hlt; omega
    rw [Int.toNat_natCast]
    have eC : (!lowerB (at8 s i) && !digitB (at8 s i) && at8 s i != 45 && at8 s i != 95 && at8 s i != 46 && at8 s i != 43) = !userC (at8 s i) := by
      unfold userC
      simp only [bne]
      cases lowerB (at8 s i) <;> cases digitB (at8 s i) <;> simp
    rw [eC]
    refine ⟨⟨by omega, by omega⟩, bsp_intro (fun h => ?_) (fun h => ?_)⟩
    · have h : userC (at8 s i) = false := by simpa using h
      have : userB s = false := by
        unfold userB
        have : ((List.range s.size).all fun i => userC (at8 s i)) = false := by
          rw [List.all_eq_false]; exact ⟨i, List.mem_range.2 hlt, by simp [h]⟩
        rw [this]; simp
      rw [this]; exact ⟨rfl, k1⟩
    · have h : userC (at8 s i) = true := by simpa using h
      refine ⟨⟨i + 1, by rw [inc64 (by omega)], hlt, fun j hj => ?_, k1⟩, by rw [inc64 (by omega)]; simp only [Int.toNat_natCast]; omega⟩
      by_cases e : j = i
      · rw [e]; exact h
      · exact hall j (by omega)
  · have hi : i = s.size := by simp at hge; omega
    subst hi
    have : userB s = decide (s.size ≤ 40) := by
      unfold userB
      have : ((List.range s.size).all fun i => userC (at8 s i)) = true := all_at.2 fun j hj => hall j hj
      rw [this]; simp
    refine ⟨?_, k1⟩
    rw [this]
    congr 2
    apply decide_eq_decide.2
    omega
theorem xsite_any (s : ByteArray) (w : World) : Calls Tryd.prog 25 #[.string s] w fun e w' => e = .returned (.int .i64 (siteE s)) ∧ K0 w w' :=
  vc_xsite s w _ ⟨(refSite_any s w).mono fun e w1 ⟨he, hw⟩ => ⟨_, _, he, by subst hw; exact .refl _ _, rfl, by rw [hw]; exact .refl _ _⟩⟩
theorem xtext_any (a b : ByteArray) (w : World) (ha : a.size ≤ 1073741824) (hb : b.size ≤ 1073741824) :
    Calls Tryd.prog 27 #[.agg #[.string a, .string b]] w fun e w' => e = .returned (.string (a ++ ⟨#[64]⟩ ++ b)) ∧ K0 w w' := by
  refine vc_xtext a b w _ fun n => ⟨nneg (by rw [size_one]; omega), nneg (by rw [ByteArray.size_append, size_one]; omega), fun W hW => ⟨rfl, hW.kk rfl⟩⟩
theorem xaddr_any (s : ByteArray) (w : World) (hs : s.size ≤ 1073741824) :
    Calls Tryd.prog 20 #[.string s] w fun e w' => e = .returned (.tuple #[.agg #[.string (adrP s).1.1, .string (adrP s).1.2], .int .i64 (adrP s).2]) ∧ K0 w w' := by
  refine vc_xaddr s w _ (fun n W hW => ?_)
  have kW : K0 w W := hW.kk rfl
  unfold adrP
  refine ⟨fun vs w' => ∃ (i c p : Nat), vs = [.int .i64 (i : Int), .int .i64 (c : Int), .int .i64 (p : Int)] ∧ i ≤ s.size ∧ c = Lib.countByte (s.data.toList.take i) 64 ∧ c ≤ i ∧ p ≤ i ∧ (c = 0 → ∀ j, j < i → at8 s j ≠ 64) ∧ (c = 1 → p < i ∧ at8 s p = 64 ∧ ∀ j, j < p → at8 s j ≠ 64) ∧ K0 w w',
    fun vs _ => (match vs with | .int _ x :: _ => s.size - x.toNat | _ => 0), ⟨0, 0, 0, rfl, by omega, rfl, by omega, by omega, (fun _ j h => by omega), (fun h => by omega), kW⟩, ?_⟩
  rintro x x1 x2 w1 ⟨i, c, p, hv, hi, hc, hci, hpi, h0, h1, k1⟩ hL
  simp only [List.cons.injEq, Value.int.injEq, true_and, and_true] at hv
  obtain ⟨rfl, rfl, rfl⟩ := hv
  refine bsp_intro (fun hlt => ?_) (fun hge => ?_)
  · have hlt : i < s.size := by simp at hlt; omega
    rw [Int.toNat_natCast]
    have hst := cnt_step hlt
    refine ⟨⟨by omega, by omega⟩, bsp_intro (fun h => ?_) (fun h => ?_)⟩
    · have h : at8 s i = 64 := by simpa using h
      rw [if_pos h] at hst
      refine ⟨⟨i + 1, c + 1, i, by rw [inc64 (by omega), inc64 (by omega)], hlt, by omega, by omega, by omega, (fun h => by omega), fun hc1 => ⟨by omega, h, fun j hj => h0 (by omega) j hj⟩, k1⟩, by rw [inc64 (by omega)]; simp only [Int.toNat_natCast]; omega⟩
    · have h : at8 s i ≠ 64 := by simpa using h
      rw [if_neg h] at hst
      refine ⟨⟨i + 1, c, p, by rw [inc64 (by omega)], hlt, by omega, by omega, by omega, fun hc0 j hj => ?_, fun hc1 => ⟨by have := (h1 hc1).1; omega, (h1 hc1).2⟩, k1⟩, by rw [inc64 (by omega)]; simp only [Int.toNat_natCast]; omega⟩
      by_cases e : j = i
      · rw [e]; exact h
      · exact h0 hc0 j (by omega)
  · have hi : i = s.size := by simp at hge; omega
    subst hi
    have hca : c = cntAt s := by
      rw [hc]; unfold cntAt
      congr 1
      exact List.take_of_length_le (by simp)
    refine bsp_intro (fun h => fun W2 hW2 => ?_) (fun h => ?_)
    · rw [if_pos (by simp at h; omega)]; exact ⟨rfl, hW2.k0 k1⟩
    have hc1 : c = 1 := by simp at h; omega
    rw [if_neg (by omega)]
    obtain ⟨hp1, hp2, hp3⟩ := h1 hc1
    have hfe : findC 64 s = p := (findC_first 64 s).uniq ⟨by omega, by omega, fun j _ hj => hp3 j hj, fun _ => hp2⟩
    rw [hfe, inc64 (by omega), Int.toNat_natCast, Int.toNat_natCast]
    have hu : (s.extract 0 p).size ≤ 1073741824 := by rw [ByteArray.size_extract]; omega
    generalize s.extract 0 p = u at *
    generalize s.extract (p + 1) s.size = t at *
    refine ⟨⟨by omega, by omega⟩, ⟨(xuser_any u w1 (by omega)).mono fun e w3 ⟨he, k3⟩ => ⟨_, he, .of_k0 k3, bsp_intro (fun h => fun W2 hW2 => ?_) (fun h => ?_)⟩⟩⟩
    · rw [if_pos (by simpa using h)]; exact ⟨rfl, hW2.k0 (k1.trans k3)⟩
    rw [if_neg (by simpa using h)]
    refine ⟨⟨by omega, by omega⟩, ⟨(xsite_any t w3).mono fun e w4 ⟨he, k4⟩ => ⟨_, he, .of_k0 k4, bsp_intro (fun h => ?_) (fun h => ?_)⟩⟩⟩
    · rw [if_pos (by simpa using h)]
      exact ⟨⟨by omega, by omega⟩, ⟨(xsite_any t w4).mono fun e w5 ⟨he, k5⟩ => ⟨_, he, .of_k0 k5, fun W2 hW2 => ⟨rfl, hW2.k0 (((k1.trans k3).trans k4).trans k5)⟩⟩⟩⟩
    · rw [if_neg (by simpa using h)]
      exact ⟨⟨by omega, by omega⟩, ⟨by omega, by omega⟩, fun W2 hW2 => ⟨rfl, hW2.k0 ((k1.trans k3).trans k4)⟩⟩

/-! ### The statement -/
theorem adr_back {s : ByteArray} (h : (adrP s).2 = 0) : (adrP s).1.1 ++ ⟨#[64]⟩ ++ (adrP s).1.2 = s := by
  unfold adrP at *
  split at h
  · cases h
  rename_i h1
  rw [if_neg h1]
  have h1 : cntAt s = 1 := Classical.byContradiction h1
  split at h
  · cases h
  rename_i h2
  rw [if_neg h2]
  split at h
  · rename_i h3; exact absurd h h3
  rename_i h3
  rw [if_neg h3]
  have hlt := cnt_one h1
  have hf := findC_first 64 s
  have h64 := hf.2.2.2 hlt
  generalize findC 64 s = i at *
  show s.extract 0 i ++ ⟨#[64]⟩ ++ s.extract (i + 1) s.size = s
  have e64 : (⟨#[64]⟩ : ByteArray) = s.extract i (i + 1) := by
    apply ByteArray.ext_getElem
    · rw [size_one, ByteArray.size_extract]; omega
    · intro k hk hk'
      rw [size_one] at hk
      obtain rfl : k = 0 := by omega
      have a1 := at8_extract s i (i + 1) 0 (by omega) (by omega)
      rw [show i + 0 = i from rfl, h64, at8_lt _ _ hk'] at a1
      apply UInt8.toNat_inj.1
      have a2 : ((s.extract i (i + 1))[0].toNat : Int) = 64 := a1
      show (64 : UInt8).toNat = _
      have : (64 : UInt8).toNat = 64 := rfl
      omega
  rw [e64, ByteArray.extract_append_extract, Nat.zero_min, Nat.max_eq_right (Nat.le_succ i), ByteArray.extract_append_extract, Nat.zero_min, Nat.max_eq_right (by omega)]
  simp
theorem laddr_any (s : ByteArray) (w : World) (hs : s.size ≤ 4611686018427387904) (hG : GX w) (hT : GT w) :
    Calls Tryd.prog 7 #[.string s] w fun e w' => e = .returned (.bool true) ∧ K0 w w' := by
  refine vc_laddr s w _ ?_
  unfold VC_laddr
  have hk : ∃ k : Nat, (if 120 < (s.size : Int) then (120 : Int) else (s.size : Int)) = k ∧ k ≤ 120 ∧ k ≤ s.size := by
    split
    · exact ⟨120, rfl, by omega, by omega⟩
    · exact ⟨s.size, rfl, by omega, by omega⟩
  obtain ⟨k, ek, hk1, hk2⟩ := hk
  rw [ek, Int.toNat_natCast]
  have hz : (s.extract 0 k).size ≤ 120 := by rw [ByteArray.size_extract]; omega
  generalize s.extract 0 k = t at *
  refine ⟨⟨by omega, by omega⟩, ⟨(mparse_any t w (by omega) hG).mono fun e w1 ⟨he, k1⟩ => ⟨_, _, _, he, .of_k0 k1, fun n W hW => ?_⟩⟩⟩
  have k2 : K0 w1 W := hW.kk rfl
  refine ⟨(xaddr_any t W (by omega)).mono fun e w3 ⟨he, k3⟩ => ⟨_, _, _, he, .of_k0 k3, fun n1 W4 hW4 => ?_⟩⟩
  have k4 : K0 w3 W4 := hW4.kk rfl
  have k04 := ((k1.trans k2).trans k3).trans k4
  have hb := hW4.cells 0 rfl
  have ha := hW4.cells 1 rfl
  refine ⟨(known_any W4 (hT.k0 k04)).mono fun e w5 ⟨he, k5⟩ => ⟨_, he, .of_k0 k5, ?_⟩⟩
  refine ⟨_, gimp_intro fun _ => cell_at (k5.blk ha (fun h => h)) rfl, _, gimp_intro fun _ => cell_at (k5.blk hb (fun h => h)) rfl, _, gimp_intro fun _ => cell_at (k5.blk ha (fun h => h)) rfl, _, gimp_intro fun _ => cell_at (k5.blk hb (fun h => h)) rfl, bsp_intro (fun _ => ?_) (fun h => by simp at h)⟩
  refine bsp_intro (fun h => ?_) (fun h => ⟨.refl _ _, rfl, k04.trans k5⟩)
  have h0 : (adrP t).2 = 0 := by simpa using h
  have hback := adr_back h0
  have hsz := congrArg ByteArray.size hback
  simp only [ByteArray.size_append, size_one] at hsz
  refine ⟨(mstr_any (adrP t).1.1 (adrP t).1.2 w5 (by omega) (by omega)).mono fun e w6 ⟨he, k6⟩ => ⟨_, he, .of_k0 k6, ?_, (k04.trans k5).trans k6⟩⟩
  rw [hback]; simp

end Go.Proofs.YtmlmdljnfokebaaDoor

/- Chapter 49: the reference's words, squeezed texts, printable texts, decimal numbers. Texts have at most 2^30 bytes. -/
namespace Go.Proofs.YtmlmdljnfokebaaDoor
open Go.RowKit

/-! ### Words -/
theorem wordsF_fuel (s : ByteArray) : ∀ (f g i : Nat), s.size - i ≤ f → s.size - i ≤ g → wordsF s f i = wordsF s g i
  | 0, 0, _, _, _ => rfl
  | 0, g + 1, i, h, _ => by
    show [] = wordsF s (g + 1) i
    unfold wordsF
    rw [if_neg (by omega)]
  | f + 1, 0, i, _, h => by
    show wordsF s (f + 1) i = []
    unfold wordsF
    rw [if_neg (by omega)]
  | f + 1, g + 1, i, h1, h2 => by
    unfold wordsF
    by_cases hi : i < s.size
    · rw [if_pos hi, if_pos hi]
      have a := skipN_to blankB s (i := i) (by omega)
      have b := skipN_to blackB s a.2.1
      have hid : i < skipN blackB s (skipN blankB s i) := by
        rcases Nat.lt_or_ge i (skipN blackB s (skipN blankB s i)) with h2 | h2
        · exact h2
        · have e1 : skipN blankB s i = i := by have := a.1; have := b.1; omega
          have e2 : skipN blackB s i = i := by have := b.1; rw [e1] at this h2; omega
          have f1 := a.2.2.2 (by omega)
          rw [e1] at f1
          have f2 := b.2.2.2 (by rw [e1, e2]; omega)
          rw [e1, e2] at f2
          unfold blackB at f2
          rw [f1] at f2
          cases f2
      rw [wordsF_fuel s f g _ (by omega) (by omega)]
    · rw [if_neg hi, if_neg hi]
def WF (s : ByteArray) (i : Nat) : List ByteArray := wordsF s s.size i
theorem WF_end {s : ByteArray} {i : Nat} (h : s.size ≤ i) : WF s i = [] := by
  unfold WF
  cases hs : s.size with
  | zero => rfl
  | succ n => unfold wordsF; rw [if_neg (by omega)]
theorem skip_step {p : Int → Bool} {s : ByteArray} {i : Nat} (hi : i < s.size) (h : p (at8 s i) = true) : skipN p s i = skipN p s (i + 1) := by
  have b := skipN_to p s (i := i + 1) (by omega)
  refine (skipN_to p s (by omega)).uniq ⟨by have := b.1; omega, b.2.1, fun j j1 j2 => ?_, b.2.2.2⟩
  by_cases e : j = i
  · rw [e]; exact h
  · exact b.2.2.1 j (by omega) j2
theorem WF_step {s : ByteArray} {i : Nat} (hi : i < s.size) : WF s i = if skipN blankB s i < skipN blackB s (skipN blankB s i) then s.extract (skipN blankB s i) (skipN blackB s (skipN blankB s i)) :: WF s (skipN blackB s (skipN blankB s i)) else WF s (skipN blackB s (skipN blankB s i)) := by
  have a := skipN_to blankB s (i := i) (by omega)
  have b := skipN_to blackB s a.2.1
  have e : WF s i = wordsF s (s.size + 1) i := wordsF_fuel s _ _ i (by omega) (by omega)
  rw [e]
  unfold wordsF
  rw [if_pos hi]
  rfl
theorem WF_blank {s : ByteArray} {i : Nat} (hi : i < s.size) (h : blankB (at8 s i) = true) : WF s i = WF s (i + 1) := by
  have e := skip_step hi h
  rw [WF_step hi, e]
  by_cases h1 : i + 1 < s.size
  · rw [WF_step h1]
  · have b := skipN_to blankB s (i := i + 1) (by omega)
    have e1 : skipN blankB s (i + 1) = s.size := by have := b.1; have := b.2.1; omega
    have c := skipN_to blackB s (i := s.size) (Nat.le_refl _)
    have e2 : skipN blackB s s.size = s.size := by have := c.1; have := c.2.1; omega
    rw [e1, e2, if_neg (by omega), WF_end (Nat.le_refl _), WF_end (by omega)]
theorem WF_word {s : ByteArray} {a i : Nat} (ha : a < i) (hi : i ≤ s.size) (hb : ∀ j, a ≤ j → j < i → blankB (at8 s j) = false) (he : i < s.size → blankB (at8 s i) = true) : WF s a = s.extract a i :: WF s i := by
  have e1 : skipN blankB s a = a := (skipN_to blankB s (by omega)).uniq ⟨Nat.le_refl _, by omega, fun j _ _ => by omega, fun _ => hb a (Nat.le_refl _) ha⟩
  have e2 : skipN blackB s a = i := (skipN_to blackB s (by omega)).uniq ⟨by omega, hi, fun j j1 j2 => by unfold blackB; rw [hb j j1 j2]; rfl, fun h => by unfold blackB; rw [he h]; rfl⟩
  rw [WF_step (by omega), e1, e2, if_pos ha]
theorem r1words_any (s : ByteArray) (w : World) (hz : s.size ≤ 1073741824) :
    Calls Tryd.prog 79 #[.string s] w fun e w' => (∃ (p : Option Addr) (c : Nat), e = .returned (.slice p (words s).length c) ∧ w'.ownsRow w.heap.size 9 1 (.slice p (words s).length c) (words s).length ((words s).map .string)) ∧ K0 w w' := by
  refine vc_r1words s w _ ?_
  have hW0 : [] ++ WF s 0 = words s := rfl
  generalize words s = G at hW0
  refine ⟨fun vs w' => ∃ (i : Nat) (fr : Int) (acc : List ByteArray) (p : Option Addr) (c : Nat), vs = [.int .i64 (i : Int), .int .i64 fr, .slice p acc.length c] ∧ i ≤ s.size + 1 ∧ acc.length ≤ i ∧ ((fr = -1 ∧ acc ++ WF s i = G) ∨ (∃ a : Nat, fr = a ∧ a < i ∧ i ≤ s.size ∧ (∀ j, a ≤ j → j < i → blankB (at8 s j) = false) ∧ acc ++ WF s a = G)) ∧ w'.ownsRow w.heap.size 9 1 (.slice p acc.length c) acc.length (acc.map .string) ∧ K0 w w',
    fun vs _ => (match vs with | .int _ x :: _ => s.size + 1 - x.toNat | _ => 0), ⟨0, -1, [], none, 0, rfl, by omega, by simp, .inl ⟨rfl, hW0⟩, World.ownsRow_nil _ _ _ _, .refl _ _⟩, ?_⟩
  rintro x x1 p n c w1 ⟨i, fr, acc, p', c', hv, hi, hai, hst, ho, k1⟩
  simp only [List.cons.injEq, Value.int.injEq, Value.slice.injEq, true_and, and_true] at hv
  obtain ⟨rfl, rfl, ⟨rfl, rfl, rfl⟩⟩ := hv
  refine bsp_intro (fun hle => ?_) (fun hgt => ?_)
  · have hle : i ≤ s.size := by simp at hle; omega
    rw [Int.toNat_natCast]
    refine ⟨gimp_intro fun h => ⟨by omega, by simpa using h⟩, bsp_intro (fun h => ?_) (fun h => ?_)⟩
    · simp only [Bool.and_eq_true, decide_eq_true_eq, Bool.not_eq_true'] at h
      have hlt : i < s.size := by omega
      rcases hst with ⟨rfl, hE⟩ | ⟨a, rfl, ha, hai2, hb, hE⟩
      · refine bsp_intro (fun _ => ?_) (fun h => by simp at h)
        refine ⟨⟨i + 1, i, acc, p, c, by rw [inc64 (by omega)], by omega, by omega, .inr ⟨i, rfl, by omega, hlt, fun j j1 j2 => ?_, hE⟩, ho, k1⟩, by rw [inc64 (by omega)]; simp only [Int.toNat_natCast]; omega⟩
        obtain rfl : j = i := by omega
        exact h.2
      · refine bsp_intro (fun h => by first | (simp at h; done) | (simp at h; omega)) (fun _ => ?_)
        refine ⟨⟨i + 1, a, acc, p, c, by rw [inc64 (by omega)], by omega, by omega, .inr ⟨a, rfl, by omega, hlt, fun j j1 j2 => ?_, hE⟩, ho, k1⟩, by rw [inc64 (by omega)]; simp only [Int.toNat_natCast]; omega⟩
        by_cases e : j = i
        · rw [e]; exact h.2
        · exact hb j j1 (by omega)
    · have hbl : i < s.size → blankB (at8 s i) = true := fun hlt => by
        simp only [Bool.and_eq_false_iff, decide_eq_false_iff_not, Bool.not_eq_false'] at h
        rcases h with h | h
        · omega
        · exact h
      have hnext : WF s i = WF s (i + 1) := by
        rcases Nat.lt_or_ge i s.size with hlt | hge
        · exact WF_blank hlt (hbl hlt)
        · rw [WF_end hge, WF_end (by omega)]
      rcases hst with ⟨rfl, hE⟩ | ⟨a, rfl, ha, hai2, hb, hE⟩
      · refine bsp_intro (fun h => by simp at h) (fun _ => ?_)
        exact ⟨⟨i + 1, -1, acc, p, c, by rw [inc64 (by omega)], by omega, by omega, .inl ⟨rfl, by rw [← hnext]; exact hE⟩, ho, k1⟩, by rw [inc64 (by omega)]; simp only [Int.toNat_natCast]; omega⟩
      · refine bsp_intro (fun _ => ?_) (fun h => by first | (simp at h; done) | (simp at h; omega))
        rw [Int.toNat_natCast]
        refine ⟨⟨by omega, by omega, by omega⟩, fun n9 W hW => ?_⟩
        have k3 : K0 w1 W := hW.kk rfl
        have ho3 := owns_kp ho k3 (fun _ _ h => h)
        refine ⟨_, _, ho3, by omega, by omega, Nat.le_trans k1.size k3.size, fun p4 c4 w4 ho4 hg4 _ => ?_⟩
        have hk4 := kp_grown hg4
        have kk : K0 w w4 := (k1.trans k3).fresh hk4 (fun j hj e => by have := own_ge ho3 e; omega)
        refine ⟨.of_kp hk4 (fun z hz => by cases hz), ⟨i + 1, -1, acc ++ [s.extract a i], p4, c4, ?_, by omega, by simp; omega, .inl ⟨rfl, ?_⟩, ?_, kk⟩, by rw [inc64 (by omega)]; simp only [Int.toNat_natCast]; omega⟩
        · rw [inc64 (by omega), List.length_append]; rfl
        · rw [← hnext, ← hE, WF_word ha hai2 hb hbl]; simp
        · rw [List.length_append, List.map_append]; exact ho4
  · have hi2 : i = s.size + 1 := by simp at hgt; omega
    rcases hst with ⟨rfl, hE⟩ | ⟨a, rfl, ha, hai2, hb, hE⟩
    · rw [WF_end (by omega), List.append_nil] at hE
      subst hE
      exact ⟨⟨p, c, rfl, ho⟩, k1⟩
    · omega
theorem r1squeeze_any (s : ByteArray) (w : World) (hz : s.size ≤ 1073741824) :
    Calls Tryd.prog 60 #[.string s] w fun e w' => e = .returned (.string (squeeze s)) ∧ K0 w w' := by
  have hs := wordsF_sum s s.size 0 (by omega)
  refine vc_r1squeeze s w _ ⟨(r1words_any s w hz).mono fun e w1 ⟨⟨p, c, he, ho⟩, k1⟩ => ⟨_, _, _, he, .of_k0 k1, ?_⟩⟩
  have hR := strP_own ho
  have hl : (words s).length ≤ 1073741824 ∧ sumZ (words s) ≤ 1073741824 := by unfold words; omega
  unfold squeeze
  generalize words s = l at *
  refine ⟨fun vs w' => ∃ i : Nat, vs = [.int .i64 (i : Int), .string (joinT 32 (l.take i))] ∧ i ≤ l.length ∧ K0 w1 w',
    fun vs _ => (match vs with | .int _ x :: _ => l.length - x.toNat | _ => 0), ⟨0, rfl, by omega, .refl _ _⟩, ?_⟩
  rintro x x1 w2 ⟨i, hv, hi, k2⟩
  simp only [List.cons.injEq, Value.int.injEq, Value.string.injEq, true_and, and_true] at hv
  obtain ⟨rfl, rfl⟩ := hv
  have hj := joinT_size 32 (l.take i)
  have hst := sumZ_take l i
  have hlt2 : (l.take i).length ≤ l.length := by rw [List.length_take]; omega
  refine bsp_intro (fun hlt => ?_) (fun hge => ?_)
  · have hlt : i < l.length := by simp at hlt; omega
    obtain ⟨z, b, o, hz', hp, hc⟩ := str_get (hR.k0 k2) hlt
    have hs2 := sumZ_take l (i + 1)
    rw [take_snoc hz', sumZ_snoc] at hs2
    rw [Int.toNat_natCast]
    refine bsp_intro (fun h => ?_) (fun h => ?_)
    · have hne : l.take i ≠ [] := by intro e; rcases List.take_eq_nil_iff.1 e with e | e; simp at h; omega; rw [e] at hlt; simp at hlt
      refine ⟨nneg (by rw [size_one]; omega), nn_is hp ⟨⟨by omega, by omega⟩, z, hc, nneg (by rw [ByteArray.size_append, size_one]; omega), ⟨i + 1, by rw [inc64 (by omega), take_snoc hz', joinT_snoc 32 hne], hlt, k2⟩, by rw [inc64 (by omega)]; simp only [Int.toNat_natCast]; omega⟩⟩
    · have h0 : i = 0 := by simp at h; omega
      subst h0
      refine nn_is hp ⟨⟨by omega, by omega⟩, z, hc, nneg (by omega), ⟨1, ?_, hlt, k2⟩, by rw [inc64 (by omega)]; simp only [Int.toNat_natCast]; omega⟩
      rw [inc64 (by omega), take_snoc hz']
      show [_, Value.string (⟨#[]⟩ ++ z)] = [_, Value.string z]
      rw [nil_app]
  · have hi : i = l.length := by simp at hge; omega
    subst hi
    rw [List.take_length]
    exact ⟨rfl, k1.trans k2⟩
theorem prt_neg {s : ByteArray} : decide (0 ≤ prtN s) = !prtS s := by
  have h := skipN_to prtB s (i := 0) (by omega)
  unfold prtN
  generalize skipN prtB s 0 = a at *
  by_cases e : a = s.size
  · rw [if_pos e]
    have : prtS s = true := all_at.2 fun j hj => h.2.2.1 j (by omega) (by omega)
    rw [this]; rfl
  · rw [if_neg e]
    have hlt : a < s.size := by have := h.2.1; omega
    have : prtS s = false := by unfold prtS; rw [List.all_eq_false]; exact ⟨a, List.mem_range.2 hlt, by rw [h.2.2.2 hlt]; decide⟩
    rw [this]; simp
theorem r1printable_any (s : ByteArray) (w : World) (hz : s.size ≤ 1073741824) :
    Calls Tryd.prog 59 #[.string s] w fun e w' => e = .returned (.int .i64 (prtN s)) ∧ K0 w w' := by
  refine vc_r1printable s w _ ?_
  refine ⟨fun vs w' => ∃ i : Nat, vs = [.int .i64 (i : Int)] ∧ i ≤ s.size ∧ (∀ j, j < i → prtB (at8 s j) = true) ∧ K0 w w',
    fun vs _ => (match vs with | .int _ x :: _ => s.size - x.toNat | _ => 0), ⟨0, rfl, by omega, (fun j h => by omega), .refl _ _⟩, ?_⟩
  rintro x w1 ⟨i, hv, hi, hall, k1⟩
  simp only [List.cons.injEq, Value.int.injEq, true_and, and_true] at hv
  subst hv
  refine bsp_intro (fun hlt => ?_) (fun hge => ?_)
  · have hlt : i < s.size := by simp at hlt; omega
    rw [Int.toNat_natCast]
    have eP : (!visB (at8 s i) && at8 s i != 32) = !prtB (at8 s i) := by unfold prtB; cases visB (at8 s i) <;> simp [bne]
    rw [eP]
    refine ⟨⟨by omega, by omega⟩, gimp_intro fun _ => ⟨by omega, by omega⟩, bsp_intro (fun h => ?_) (fun h => ?_)⟩
    · have h : prtB (at8 s i) = false := by simpa using h
      have e : skipN prtB s 0 = i := (skipN_to prtB s (by omega)).uniq ⟨by omega, by omega, fun j _ hj => hall j hj, fun _ => h⟩
      unfold prtN
      rw [e, if_neg (by omega)]
      exact ⟨rfl, k1⟩
    · have h : prtB (at8 s i) = true := by simpa using h
      refine ⟨⟨i + 1, by rw [inc64 (by omega)], hlt, fun j hj => ?_, k1⟩, by rw [inc64 (by omega)]; simp only [Int.toNat_natCast]; omega⟩
      by_cases e : j = i
      · rw [e]; exact h
      · exact hall j (by omega)
  · have hi : i = s.size := by simp at hge; omega
    subst hi
    have e : skipN prtB s 0 = s.size := (skipN_to prtB s (by omega)).uniq ⟨by omega, by omega, fun j _ hj => hall j hj, fun h => by omega⟩
    unfold prtN
    rw [e, if_pos rfl]
    exact ⟨rfl, k1⟩

end Go.Proofs.YtmlmdljnfokebaaDoor

/- Chapter 49: the contracts of the statements' conversions To and Of. Lists have at most 2^40 strings. -/
namespace Go.Proofs.YtmlmdljnfokebaaDoor
open Go.RowKit

set_option maxHeartbeats 1000000 in
theorem of_any (m : Ml) (p : Option Addr) (c : Nat) (w : World) (hR : StrP w p m.hops) (hhl : m.hops.length ≤ 1099511627776) :
    Calls Tryd.prog 11 #[mxA m p c] w fun e w' => (∃ (q : Option Addr) (d : Nat), e = .returned (mxA m q d) ∧ w'.ownsRow w.heap.size 9 1 (.slice q m.hops.length d) m.hops.length (m.hops.map .string)) ∧ K0 w w' := by
  refine vc_lof m.fu m.fs m.tu m.ts m.n m.d m.sj p m.hops.length c m.bd w _ (fun n1 n2 n3 W hW => ?_)
  have k0s : K0 w W := hW.kk rfl
  have hb3 : W.heap[n3]? = some (.cells #[.string m.fu, .string m.fs, .string m.tu, .string m.ts, .int .i64 m.n, .int .i64 m.d, .string m.sj, .slice none 0 0, .string m.bd] 26 (0, 0)) := hW.cells 0 rfl
  have g3 : w.heap.size ≤ n3 := hW.fresh 0 rfl rfl
  have hA : n3 ≠ n1 := hW.apart 0 2 rfl rfl (by decide)
  have hA2 : n3 ≠ n2 := hW.apart 0 1 rfl rfl (by decide)
  obtain ⟨B, hB, b1, b2, b3⟩ : ∃ B, B ≤ W.heap.size ∧ n1 < B ∧ n2 < B ∧ n3 < B := by
    have h1 := block_lt (hW.cells 2 rfl)
    have h2 := block_lt (hW.cells 1 rfl)
    have h3 := block_lt hb3
    exact ⟨W.heap.size, Nat.le_refl _, h1, h2, h3⟩
  refine ⟨fun vs w' => ∃ (i : Nat) (q : Option Addr) (d : Nat), vs = [.int .i64 (i : Int)] ∧ i ≤ m.hops.length ∧ w'.heap[n3]? = some (.cells #[.string m.fu, .string m.fs, .string m.tu, .string m.ts, .int .i64 m.n, .int .i64 m.d, .string m.sj, .slice q i d, .string m.bd] 26 (0, 0)) ∧ w'.ownsRow B 9 1 (.slice q i d) i ((m.hops.take i).map .string) ∧ K0 w w' ∧ B ≤ w'.heap.size,
    fun vs _ => (match vs with | .int _ x :: _ => m.hops.length - x.toNat | _ => 0), ⟨0, none, 0, rfl, by omega, hb3, World.ownsRow_nil _ _ _ _, k0s, hB⟩, ?_⟩
  rintro x w4 ⟨i, q, d, hv, hi, hb4, ho4, k4, hn4⟩ hL4
  simp only [List.cons.injEq, Value.int.injEq, true_and, and_true] at hv
  subst hv
  refine bsp_intro (fun hlt => ?_) (fun hge => ?_)
  · have hlt : i < m.hops.length := by simp at hlt; omega
    intro W5 hW5
    have k5 : K0 w4 W5 := hW5.kk rfl
    have hc1 : W5.heap[n1]? = some (.cells #[.string m.fu, .string m.fs, .string m.tu, .string m.ts, .int .i64 m.n, .int .i64 m.d, .string m.sj, .slice p m.hops.length c, .string m.bd] 29 (0, 0)) := hW5.cells 1 rfl
    have hb5 := k5.blk hb4 (fun h => h)
    obtain ⟨z, bz, oz, hz, hp, hcz⟩ := str_get (hR.k0 (k4.trans k5)) hlt
    refine ⟨fun wx => K0 W5 wx, .refl _ _, q, i, d, fun wx k => cell_at (k.blk hb5 (fun h => h)) rfl, p, m.hops.length, c, fun wx k => cell_at (k.blk hc1 (fun h => h)) rfl, nn_is hp ⟨⟨by omega, by omega⟩, z, fun wx k => by rw [Int.toNat_natCast]; exact k.cell' hcz (fun h => h), fun n5 w6 hn6 => ⟨hn6.kp _, ?_⟩⟩⟩
    have ho5 := owns_kp ho4 k5 (fun _ _ h => h)
    refine app1 ho5 (Nat.le_trans hn4 k5.size) hn6 rfl (by intro u hu; simp at hu; subst hu; rfl) (by omega) (by omega) (fun q' d' w7 ho7 hk7 hs7 => ?_)
    have k7 : Kp (fun k => B ≤ k) W5 w7 := hk7.mono fun k _ e => own_ge ho5 e
    have hb7 := k7.blk hb5 (by omega)
    refine ⟨cell_wr hb7 (by show 7 < 9; omega), fun w8 hp8 => ?_⟩
    have hb8 : w8.heap[n3]? = some (.cells #[.string m.fu, .string m.fs, .string m.tu, .string m.ts, .int .i64 m.n, .int .i64 m.d, .string m.sj, .slice q' (i + 1) d', .string m.bd] 26 (0, 0)) := by rw [hp8.block hb7]; rfl
    have k8 : Kp (fun k => k = n3 ∨ B ≤ k) W5 w8 := (k7.mono fun k _ e => .inr e).trans (hp8.kp.mono fun k _ e => .inl e)
    have k08 : K0 w w8 := (k4.trans k5).fresh k8 (fun j hj e => by omega)
    refine ⟨⟨by rw [hp8.size]; have := (hn6.kp (fun _ => False)).size; omega, fun y hy hlt' => k8.block y hlt' (fun e => by simp at hy; rcases hy with rfl | rfl; omega; omega)⟩, ⟨i + 1, q', d', by rw [inc64 (by omega)], by omega, hb8, ?_, k08, by rw [hp8.size]; have := k7.size; have := k5.size; omega⟩, by rw [inc64 (by omega)]; simp only [Int.toNat_natCast]; omega⟩
    rw [take_snoc hz, List.map_append]
    refine owns_kp ho7 hp8.kp (fun k hk e => ?_)
    have := own_ge ho7 hk
    have e : k = n3 := e
    omega
  · have hge : i = m.hops.length := by simp at hge; omega
    subst hge
    have hlen : (m.hops.take (m.hops.length)).length = m.hops.length := by rw [List.length_take]; omega
    refine ⟨_, _, _, _, _, _, _, _, _, _, _, AtL_block hb4 rfl, fun W5 hW5 => ⟨⟨q, d, ?_, ?_⟩, hW5.k0 k4⟩⟩
    · rfl
    · rw [List.take_length] at ho4
      refine owns_kp (own_base ho4 (by omega)) hW5.kp (fun k hk ⟨x, hx, h3, h4⟩ => ?_)
      have h1 := own_ge ho4 hk
      simp only [List.mem_cons, List.not_mem_nil, or_false] at hx
      rcases hx with rfl | rfl
      · have e : n2 = k := by first | exact h4 | exact h4.symm | exact h3 | exact h3.symm | exact h4.1 | exact h4.1.symm
        omega
      · have e : n1 = k := by first | exact h4 | exact h4.symm | exact h3 | exact h3.symm | exact h4.1 | exact h4.1.symm
        omega

def toM (m : Ml) : Ml := ⟨m.fu, m.fs, m.tu, m.ts, m.n, m.d, m.sj, m.hops.take 20, m.bd.extract 0 (min m.bd.size 33000)⟩
set_option maxHeartbeats 1000000 in
theorem to_any (m : Ml) (p : Option Addr) (c : Nat) (w : World) (hR : StrP w p m.hops) (hhl : m.hops.length ≤ 4611686018427387904) :
    Calls Tryd.prog 8 #[mxA m p c] w fun e w' => (∃ (q : Option Addr) (d : Nat), e = .returned (mxA (toM m) q d) ∧ w'.ownsRow w.heap.size 9 1 (.slice q (toM m).hops.length d) (toM m).hops.length ((toM m).hops.map .string)) ∧ K0 w w' := by
  refine vc_lto m.fu m.fs m.tu m.ts m.n m.d m.sj p m.hops.length c m.bd w _ (fun n1 n2 W hW => ?_)
  have kW : K0 w W := hW.kk rfl
  have hcW : W.heap[n1]? = some (.cells #[.string m.fu, .string m.fs, .string m.tu, .string m.ts, .int .i64 m.n, .int .i64 m.d, .string m.sj, .slice p m.hops.length c, .string m.bd] 26 (0, 0)) := hW.cells 1 rfl
  have hn1 := block_lt hcW
  have hn2 := block_lt (hW.cells 0 rfl)
  simp only at hn2
  have ck : ∀ (i : Nat) (v : Value), (#[.string m.fu, .string m.fs, .string m.tu, .string m.ts, .int .i64 m.n, .int .i64 m.d, .string m.sj, .slice p m.hops.length c, .string m.bd] : Array Value)[i]? = some v → ∀ wx, K0 W wx → wx.cell? ⟨n1, i, none⟩ = some v := fun i v h wx k => cell_at (k.blk hcW (fun h => h)) h
  have hbk : ∃ bk : Nat, (if 33000 < (m.bd.size : Int) then (33000 : Int) else (m.bd.size : Int)) = bk ∧ bk = min m.bd.size 33000 := by
    split
    · exact ⟨33000, rfl, by omega⟩
    · exact ⟨m.bd.size, rfl, by omega⟩
  obtain ⟨bk, ebk, hbk⟩ := hbk
  refine ⟨fun wx => K0 W wx, .refl _ _, m.fu, ck 0 _ rfl, m.fs, ck 1 _ rfl, m.tu, ck 2 _ rfl, m.ts, ck 3 _ rfl, m.n, ck 4 _ rfl, m.d, ck 5 _ rfl, m.sj, ck 6 _ rfl, m.bd, ck 8 _ rfl, m.bd, ck 8 _ rfl, ?_⟩
  rw [ebk, Int.toNat_natCast]
  refine ⟨⟨by omega, by omega⟩, fun n3 w2 hn3 => ⟨hn3.kp _, WrL_block hn3.block (Nat.le_refl 9), fun w3 hp3 => ?_⟩⟩
  have g30 : W.heap.size ≤ n3 := hn3.ge
  have hb3 : w3.heap[n3]? = some (.cells #[.string m.fu, .string m.fs, .string m.tu, .string m.ts, .int .i64 m.n, .int .i64 m.d, .string m.sj, .slice none 0 0, .string (m.bd.extract 0 bk)] 29 (0, 0)) := hp3.full hn3.block rfl
  have kW3 : K0 W w3 := put_k0 (hn3.kp _) hp3 g30
  have k0s : K0 w w3 := kW.trans kW3
  have g3 : w.heap.size ≤ n3 := Nat.le_trans kW.size g30
  have hA : n3 ≠ n1 := by omega
  have hA2 : n3 ≠ n2 := by omega
  obtain ⟨B, hB, b1, b2, b3⟩ : ∃ B, B ≤ w3.heap.size ∧ n1 < B ∧ n2 < B ∧ n3 < B := ⟨n3 + 1, block_lt hb3, by omega, by omega, by omega⟩
  refine ⟨.of_k0 kW3, ?_⟩
  refine ⟨fun vs w' => ∃ (i : Nat) (q : Option Addr) (d : Nat), vs = [.int .i64 (i : Int)] ∧ i ≤ m.hops.length ∧ i ≤ 20 ∧ w'.heap[n3]? = some (.cells #[.string m.fu, .string m.fs, .string m.tu, .string m.ts, .int .i64 m.n, .int .i64 m.d, .string m.sj, .slice q i d, .string (m.bd.extract 0 bk)] 29 (0, 0)) ∧ w'.ownsRow B 9 1 (.slice q i d) i ((m.hops.take i).map .string) ∧ K0 w w' ∧ B ≤ w'.heap.size,
    fun vs _ => (match vs with | .int _ x :: _ => m.hops.length - x.toNat | _ => 0), ⟨0, none, 0, rfl, by omega, by omega, hb3, World.ownsRow_nil _ _ _ _, k0s, hB⟩, ?_⟩
  rintro x w4 ⟨i, q, d, hv, hi, hi20, hb4, ho4, k4, hn4⟩ hL4
  simp only [List.cons.injEq, Value.int.injEq, true_and, and_true] at hv
  subst hv
  refine bsp_intro (fun hlt => ?_) (fun hge => ?_)
  · have hlt : i < m.hops.length ∧ i < 20 := by simp at hlt; omega
    intro W5 hW5
    have k5 : K0 w4 W5 := hW5.kk rfl
    have hc1 : W5.heap[n1]? = some (.cells #[.string m.fu, .string m.fs, .string m.tu, .string m.ts, .int .i64 m.n, .int .i64 m.d, .string m.sj, .slice p m.hops.length c, .string m.bd] 26 (0, 0)) := hW5.cells 1 rfl
    have hb5 := k5.blk hb4 (fun h => h)
    obtain ⟨z, bz, oz, hz, hp, hcz⟩ := str_get (hR.k0 (k4.trans k5)) hlt.1
    refine ⟨fun wx => K0 W5 wx, .refl _ _, q, i, d, fun wx k => cell_at (k.blk hb5 (fun h => h)) rfl, p, m.hops.length, c, fun wx k => cell_at (k.blk hc1 (fun h => h)) rfl, nn_is hp ⟨⟨by omega, by omega⟩, z, fun wx k => by rw [Int.toNat_natCast]; exact k.cell' hcz (fun h => h), fun n5 w6 hn6 => ⟨hn6.kp _, ?_⟩⟩⟩
    have ho5 := owns_kp ho4 k5 (fun _ _ h => h)
    refine app1 ho5 (Nat.le_trans hn4 k5.size) hn6 rfl (by intro u hu; simp at hu; subst hu; rfl) (by omega) (by omega) (fun q' d' w7 ho7 hk7 hs7 => ?_)
    have k7 : Kp (fun k => B ≤ k) W5 w7 := hk7.mono fun k _ e => own_ge ho5 e
    have hb7 := k7.blk hb5 (by omega)
    refine ⟨cell_wr hb7 (by show 7 < 9; omega), fun w8 hp8 => ?_⟩
    have hb8 : w8.heap[n3]? = some (.cells #[.string m.fu, .string m.fs, .string m.tu, .string m.ts, .int .i64 m.n, .int .i64 m.d, .string m.sj, .slice q' (i + 1) d', .string (m.bd.extract 0 bk)] 29 (0, 0)) := by rw [hp8.block hb7]; rfl
    have k8 : Kp (fun k => k = n3 ∨ B ≤ k) W5 w8 := (k7.mono fun k _ e => .inr e).trans (hp8.kp.mono fun k _ e => .inl e)
    have k08 : K0 w w8 := (k4.trans k5).fresh k8 (fun j hj e => by omega)
    refine ⟨⟨by rw [hp8.size]; have := (hn6.kp (fun _ => False)).size; omega, fun y hy hlt' => k8.block y hlt' (fun e => by simp at hy; rcases hy with rfl | rfl; omega; omega)⟩, ⟨i + 1, q', d', by rw [inc64 (by omega)], by omega, by omega, hb8, ?_, k08, by rw [hp8.size]; have := k7.size; have := k5.size; omega⟩, by rw [inc64 (by omega)]; simp only [Int.toNat_natCast]; omega⟩
    rw [take_snoc hz, List.map_append]
    refine owns_kp ho7 hp8.kp (fun k hk e => ?_)
    have := own_ge ho7 hk
    have e : k = n3 := e
    omega
  · have hge : i = min m.hops.length 20 := by simp at hge; omega
    subst hge
    have hlen : (m.hops.take (min m.hops.length 20)).length = min m.hops.length 20 := by rw [List.length_take]; omega
    refine ⟨_, _, _, _, _, _, _, _, _, _, _, AtL_block hb4 rfl, fun W5 hW5 => ⟨⟨q, d, ?_, ?_⟩, hW5.k0 k4⟩⟩
    · have e1 : m.hops.take 20 = m.hops.take (min m.hops.length 20) := by
        by_cases h : m.hops.length ≤ 20
        · rw [Nat.min_eq_left h, List.take_length, List.take_of_length_le h]
        · rw [Nat.min_eq_right (by omega)]
      unfold toM
      rw [← hbk, e1]
      show Ending.returned (Value.agg _) = .returned (.agg _)
      simp only [hlen]
    · have e1 : m.hops.take 20 = m.hops.take (min m.hops.length 20) := by
        by_cases h : m.hops.length ≤ 20
        · rw [Nat.min_eq_left h, List.take_length, List.take_of_length_le h]
        · rw [Nat.min_eq_right (by omega)]
      show W5.ownsRow _ _ _ (.slice q (m.hops.take 20).length d) (m.hops.take 20).length ((m.hops.take 20).map .string)
      rw [e1, hlen]
      refine owns_kp (own_base ho4 (by omega)) hW5.kp (fun k hk ⟨x, hx, h3, h4⟩ => ?_)
      have h1 := own_ge ho4 hk
      simp only [List.mem_cons, List.not_mem_nil, or_false] at hx
      rcases hx with rfl | rfl
      · have e : n2 = k := by first | exact h4 | exact h4.symm | exact h3 | exact h3.symm | exact h4.1 | exact h4.1.symm
        omega
      · have e : n1 = k := by first | exact h4 | exact h4.symm | exact h3 | exact h3.symm | exact h4.1 | exact h4.1.symm
        omega

end Go.Proofs.YtmlmdljnfokebaaDoor

/- Chapter 49: the reference's has, subject, Check, Same, the program's Equal. Messages that are not too great. -/
namespace Go.Proofs.YtmlmdljnfokebaaDoor
open Go.RowKit Go.Maps

theorem xhas_any (l : List ByteArray) (i : Nat) (x : ByteArray) (p : Option Addr) (c : Nat) (w : World) (hR : StrP w p l) (hi : i ≤ l.length) (hl : l.length ≤ 4611686018427387904) :
    Calls Tryd.prog 41 #[.slice p i c, .string x] w fun e w' => e = .returned (.bool (Lib.containsS (l.take i) x)) ∧ K0 w w' := by
  refine vc_xhas p i c x w _ ?_
  refine ⟨fun vs w' => ∃ k : Nat, vs = [.int .i64 (k : Int)] ∧ k ≤ i ∧ x ∉ l.take k ∧ K0 w w',
    fun vs _ => (match vs with | .int _ y :: _ => i - y.toNat | _ => 0), ⟨0, rfl, by omega, by simp, .refl _ _⟩, ?_⟩
  rintro y w1 ⟨k, hv, hk, hno, k1⟩
  simp only [List.cons.injEq, Value.int.injEq, true_and, and_true] at hv
  subst hv
  refine bsp_intro (fun hlt => ?_) (fun hge => ?_)
  · have hlt : k < i := by simp at hlt; omega
    obtain ⟨z, b, o, hz, hp, hc⟩ := str_get (hR.k0 k1) (k := k) (by omega)
    rw [Int.toNat_natCast]
    refine nn_is hp ⟨⟨by omega, by omega⟩, z, hc, bsp_intro (fun h => ?_) (fun h => ?_)⟩
    · have e : z = x := str_eq (by simpa using h)
      have : Lib.containsS (l.take i) x = true := (Lib.containsS_iff _ _).2 (by
        rw [← e]
        exact List.mem_of_getElem? (i := k) (by rw [List.getElem?_take, if_pos hlt, hz]))
      rw [this]; exact ⟨rfl, k1⟩
    · have e : z ≠ x := fun e => by rw [e] at h; simp at h
      refine ⟨⟨k + 1, by rw [inc64 (by omega)], hlt, ?_, k1⟩, by rw [inc64 (by omega)]; simp only [Int.toNat_natCast]; omega⟩
      rw [take_snoc hz]
      intro hm
      rcases List.mem_append.1 hm with h | h
      · exact hno h
      · simp at h; exact e h.symm
  · have hk2 : k = i := by simp at hge; omega
    subst hk2
    have : Lib.containsS (l.take k) x = false := by
      cases hq : Lib.containsS (l.take k) x with
      | false => rfl
      | true => exact absurd ((Lib.containsS_iff _ _).1 hq) hno
    rw [this]; exact ⟨rfl, k1⟩
theorem xsubj_any (s : ByteArray) (w : World) : Calls Tryd.prog 40 #[.string s] w fun e w' => e = .returned (.int .i64 (subjE s)) ∧ K0 w w' := by
  refine vc_xsubj s w _ (bsp_intro (fun h => ?_) (fun h => ?_))
  · unfold subjE; rw [if_pos (by simp at h; omega)]; exact ⟨rfl, .refl _ _⟩
  have h200 : ¬ 200 < s.size := by simp at h; omega
  unfold subjE
  rw [if_neg h200]
  refine ⟨(r1printable_any s w (by omega)).mono fun e w1 ⟨he, k1⟩ => ⟨_, he, .of_k0 k1, ?_⟩⟩
  rw [show decide (prtN s ≥ 0) = !prtS s from prt_neg]
  refine bsp_intro (fun h => ?_) (fun h => ?_)
  · rw [if_pos (by simpa using h)]; exact ⟨rfl, k1⟩
  rw [if_neg (by simpa using h)]
  refine ⟨(r1squeeze_any s w1 (by omega)).mono fun e w2 ⟨he, k2⟩ => ⟨_, he, .of_k0 k2, bsp_intro (fun h => ?_) (fun h => ?_)⟩⟩
  · rw [if_pos (fun e => by rw [e] at h; simp at h)]; exact ⟨rfl, k1.trans k2⟩
  · rw [if_neg (fun hne => hne (str_eq (by simpa using h)))]; exact ⟨rfl, k1.trans k2⟩
theorem xcheck_any (m : Ml) (p : Option Addr) (c : Nat) (w : World) (hR : StrP w p m.hops) (hc : m.hops.length ≤ c) (hz : m.fu.size ≤ 4611686018427387904 ∧ m.tu.size ≤ 4611686018427387904) (hhl : m.hops.length ≤ 4611686018427387904) :
    Calls Tryd.prog 15 #[mxA m p c] w fun e w' => e = .returned (.int .i64 (chkM m)) ∧ K0 w w' := by
  refine vc_xcheck m.fu m.fs m.tu m.ts m.n m.d m.sj p m.hops.length c m.bd w _ (fun n1 W hW => ?_)
  have kW : K0 w W := hW.kk rfl
  have hb0 := hW.cells 0 rfl
  have env : ∀ v, envE m = v → v ≠ 0 → chkM m = v := fun v h h0 => by unfold chkM; rw [h, if_pos h0]
  refine ⟨(xuser_any m.fu W hz.1).mono fun e w1 ⟨he, k1⟩ => ⟨_, he, .of_k0 k1, bsp_intro (fun h => ?_) (fun h => ?_)⟩⟩
  · rw [env 12 (by unfold envE; rw [if_pos (by simpa using h)]) (by decide)]; exact ⟨rfl, kW.trans k1⟩
  have h1 : ¬ userB m.fu = false := by simpa using h
  refine ⟨(xsite_any m.fs w1).mono fun e w2 ⟨he, k2⟩ => ⟨_, he, .of_k0 k2, bsp_intro (fun h => ?_) (fun h => ?_)⟩⟩
  · have h : siteE m.fs ≠ 0 := by simpa using h
    rw [env (siteE m.fs) (by unfold envE; rw [if_neg h1, if_pos h]) h]
    exact ⟨(xsite_any m.fs w2).mono fun e w3 ⟨he, k3⟩ => ⟨_, he, .of_k0 k3, rfl, (kW.trans k1).trans (k2.trans k3)⟩⟩
  have h2 : ¬ siteE m.fs ≠ 0 := by simpa using h
  refine ⟨(xuser_any m.tu w2 hz.2).mono fun e w3 ⟨he, k3⟩ => ⟨_, he, .of_k0 k3, m.tu, gimp_intro fun _ => cell_at ((k1.trans (k2.trans k3)).blk hb0 (fun h => h)) rfl, ?_⟩⟩
  have k03 := kW.trans (k1.trans (k2.trans k3))
  rw [toList_nil]
  refine bsp_intro (fun h => ?_) (fun h => ?_)
  · rw [env 12 (by unfold envE; rw [if_neg h1, if_neg h2, if_pos (by simpa using h)]) (by decide)]; exact ⟨rfl, k03⟩
  have h3 : ¬ (userB m.tu = false ∨ m.tu.size = 0) := by simpa using h
  refine ⟨(xsite_any m.ts w3).mono fun e w4 ⟨he, k4⟩ => ⟨_, he, .of_k0 k4, bsp_intro (fun h => ?_) (fun h => ?_)⟩⟩
  · have h : siteE m.ts ≠ 0 := by simpa using h
    rw [env (siteE m.ts) (by unfold envE; rw [if_neg h1, if_neg h2, if_neg h3, if_pos h]) h]
    exact ⟨(xsite_any m.ts w4).mono fun e w5 ⟨he, k5⟩ => ⟨_, he, .of_k0 k5, rfl, (k03.trans k4).trans k5⟩⟩
  have h4 : ¬ siteE m.ts ≠ 0 := by simpa using h
  have k04 := k03.trans k4
  refine ⟨m.n, gimp_intro fun _ => cell_at ((k1.trans ((k2.trans k3).trans k4)).blk hb0 (fun h => h)) rfl, bsp_intro (fun h => ?_) (fun h => ?_)⟩
  · rw [env 2 (by unfold envE; rw [if_neg h1, if_neg h2, if_neg h3, if_neg h4, if_pos (by simpa using h)]) (by decide)]; exact ⟨rfl, k04⟩
  have h5 : ¬ (m.n < 0 ∨ 2147483647 < m.n) := by simp at h; omega
  refine bsp_intro (fun h => ?_) (fun h => ?_)
  · rw [env 13 (by unfold envE; rw [if_neg h1, if_neg h2, if_neg h3, if_neg h4, if_neg h5, if_pos (by simpa using h)]) (by decide)]; exact ⟨rfl, k04⟩
  have h6 : ¬ minB m.d = false := by simpa using h
  have e0 : envE m = 0 := by unfold envE; rw [if_neg h1, if_neg h2, if_neg h3, if_neg h4, if_neg h5, if_neg h6]
  unfold chkM
  rw [e0, if_neg (by decide)]
  refine ⟨(xsubj_any m.sj w4).mono fun e w5 ⟨he, k5⟩ => ⟨_, he, .of_k0 k5, bsp_intro (fun h => ?_) (fun h => ?_)⟩⟩
  · rw [if_pos (by simpa using h)]
    exact ⟨(xsubj_any m.sj w5).mono fun e w6 ⟨he, k6⟩ => ⟨_, he, .of_k0 k6, rfl, (k04.trans k5).trans k6⟩⟩
  rw [if_neg (by simpa using h)]
  have k05 := k04.trans k5
  refine bsp_intro (fun h => ?_) (fun h => ?_)
  · rw [if_pos (by simp at h; omega)]; exact ⟨rfl, k05⟩
  rw [if_neg (by simp at h; omega)]
  have h16 : m.hops.length ≤ 16 := by simp at h; omega
  generalize hE : hopsE [] m.hops = E
  refine ⟨fun vs w' => ∃ i : Nat, vs = [.int .i64 (i : Int)] ∧ i ≤ m.hops.length ∧ hopsE (m.hops.take i) (m.hops.drop i) = E ∧ K0 w w',
    fun vs _ => (match vs with | .int _ x :: _ => m.hops.length - x.toNat | _ => 0), ⟨0, rfl, by omega, hE, k05⟩, ?_⟩
  rintro x w6 ⟨i, hv, hi, hEi, k6⟩ _
  simp only [List.cons.injEq, Value.int.injEq, true_and, and_true] at hv
  subst hv
  refine bsp_intro (fun hlt => ?_) (fun hge => ?_)
  · have hlt : i < m.hops.length := by simp at hlt; omega
    obtain ⟨h, b, o, hh, hp, hcell⟩ := str_get (hR.k0 k6) hlt
    rw [hopsE_step hh] at hEi
    rw [Int.toNat_natCast]
    refine nn_is hp ⟨⟨by omega, by omega⟩, h, hcell, ?_⟩
    refine ⟨(xsite_any h w6).mono fun e w7 ⟨he, k7⟩ => ⟨_, he, .of_k0 k7, bsp_intro (fun hs => ?_) (fun hs => ?_)⟩⟩
    · have hs : siteE h ≠ 0 := by simpa using hs
      rw [if_pos hs] at hEi
      subst hEi
      rw [if_pos hs]; exact ⟨rfl, k6.trans k7⟩
    have hs : ¬ siteE h ≠ 0 := by simpa using hs
    rw [if_neg hs] at hEi
    refine ⟨⟨by omega, by omega⟩, nn_is hp ⟨⟨by omega, by omega⟩, h, fun W hW => (k7.trans (hW.kk rfl)).cell' hcell (fun h => h), fun W hW => ?_⟩⟩
    have k8 : K0 w7 W := hW.kk rfl
    refine ⟨(xhas_any m.hops i h p c W (hR.k0 ((k6.trans k7).trans k8)) (by omega) hhl).mono fun e w9 ⟨he, k9⟩ => ⟨_, he, .of_k0 k9, bsp_intro (fun hq => ?_) (fun hq => ?_)⟩⟩
    · rw [if_pos hq] at hEi
      subst hEi
      rw [if_pos (by decide)]; exact ⟨rfl, ((k6.trans k7).trans k8).trans k9⟩
    · rw [if_neg (by rw [hq]; decide)] at hEi
      exact ⟨⟨i + 1, by rw [inc64 (by omega)], hlt, hEi, ((k6.trans k7).trans k8).trans k9⟩, by rw [inc64 (by omega)]; simp only [Int.toNat_natCast]; omega⟩
  · have hi : i = m.hops.length := by simp at hge; omega
    subst hi
    rw [List.drop_length] at hEi
    have hE0 : E = 0 := by rw [← hEi]; rfl
    rw [hE0, if_neg (by decide)]
    refine bsp_intro (fun h => ?_) (fun h => ?_)
    · rw [if_pos (by simp at h; omega)]; exact ⟨rfl, k6⟩
    · rw [if_neg (by simp at h; omega)]; exact ⟨rfl, k6⟩

/-! ### Equal messages -/
def eqM (a b : Ml) : Bool := decide (a.fu = b.fu ∧ a.fs = b.fs) && decide (a.tu = b.tu ∧ a.ts = b.ts) && a.n == b.n && a.d == b.d && a.sj.toList == b.sj.toList && decide (a.hops = b.hops) && a.bd.toList == b.bd.toList
theorem eqM_self (a : Ml) : eqM a a = true := by unfold eqM; simp

end Go.Proofs.YtmlmdljnfokebaaDoor

/- Chapter 49: the reference's decimal numbers. No condition but the range. -/
namespace Go.Proofs.YtmlmdljnfokebaaDoor
open Go.RowKit

theorem one_byte {w : World} {n u : Nat} (hu : u < 10) {t : TypeId} {f : Nat × Nat} (h : w.heap[n]? = some (.cells #[.int .u8 (48 + u : Int)] t f)) : BytesP w (some ⟨n, 0, none⟩) ⟨#[UInt8.ofNat (48 + u)]⟩ := by
  refine ⟨.inr ⟨n, 0, rfl, ?_⟩⟩
  have e : byteCells ⟨#[UInt8.ofNat (48 + u)]⟩ = [.int .u8 (48 + u : Int)] := by
    show [Value.int .u8 ((UInt8.ofNat (48 + u)).toNat : Int)] = _
    rw [dig_nat hu]
  rw [e]
  exact cell_at h rfl
def dgB (u : Nat) : ByteArray := ⟨#[UInt8.ofNat (48 + u)]⟩
theorem dgB_size (u : Nat) : (dgB u).size = 1 := rfl
theorem conv1 (w : World) {u : Nat} (hu : u < 10) : (convert 101 9 (.slice (some ⟨w.heap.size, 0, none⟩) 1 1)).run Tryd.prog (w.alloc (.cells #[.int .u8 (48 + u : Int)] 5)) = .ok (.string (dgB u)) (w.alloc (.cells #[.int .u8 (48 + u : Int)] 5)) :=
  run_bytesP Tryd.underlying101 Tryd.underlying5 Tryd.underlying9 rfl (one_byte hu (NewB.block ⟨rfl, rfl⟩))
theorem convK {W w1 : World} {u : Nat} (hu : u < 10) (k : K0 (W.alloc (.cells #[.int .u8 (48 + u : Int)] 5)) w1) : (convert 101 9 (.slice (some ⟨W.heap.size, 0, none⟩) 1 1)).run Tryd.prog w1 = .ok (.string (dgB u)) w1 :=
  run_bytesP Tryd.underlying101 Tryd.underlying5 Tryd.underlying9 rfl (one_byte hu (k.blk (NewB.block ⟨rfl, rfl⟩) (fun h => h)))
theorem allocK (w : World) (o : Obj) : K0 w (w.alloc o) := ⟨rfl, rfl, rfl, by simp, fun k hk _ => Below.heap_alloc _ _ _ hk⟩
theorem drewK (w : World) : K0 w w.drew := ⟨rfl, rfl, rfl, Nat.le_refl _, fun _ _ _ => rfl⟩
theorem decT_big' {u : Nat} (h : ¬ u < 10) : decT (u / 10) ++ dgB (u % 10) = decT u := (decT_big h).symm
set_option maxHeartbeats 2000000 in
set_option maxRecDepth 1000000 in
theorem plain_any (u : Nat) : ∀ (w : World), u < 18446744073709551616 → Calls Tryd.prog 51 #[.int .u64 u] w fun e w' => e = .returned (.string (decT u)) ∧ K0 w w' := by
  induction u using Nat.strongRecOn with
  | _ u ih =>
    intro w hu
    have mixed : Tryd.prog.follows .mixedOrders = true := by kernel_rfl
    have t5 := Tryd.underlying5; have a5 := Tryd.isAgg5; have z5 := Tryd.sizeOf5; have v5 := Tryd.zeroValue5
    have t9 := Tryd.underlying9; have a9 := Tryd.isAgg9; have z9 := Tryd.sizeOf9; have v9 := Tryd.zeroValue9
    have tu := Tryd.underlying83; have au := Tryd.isAgg83; have zu := Tryd.sizeOf83; have vu := Tryd.zeroValue83
    have tb := Tryd.underlying101; have ab := Tryd.isAgg101; have zb := Tryd.sizeOf101; have vb := Tryd.zeroValue101
    have e0 : ∀ v : Nat, v < 10 → IntKind.u8.wrap (IntKind.u64.wrap (48 + (v : Int))) = 48 + (v : Int) := fun v hv => by
      rw [IntWalk.u64_in _ ⟨by omega, by omega⟩, IntWalk.u8_in _ ⟨by omega, by omega⟩]
    go_enter Tryd.func51, Tryd.ntmps51
    go_wp2
    · rename_i hlt
      have hlt : u < 10 := by omega
      rw [conv1 w hlt]
      simp only [Result.andThen]
      rw [Oper.upon_value]
      go_wp2
      go_ret
      exact ⟨by rw [decT_small hlt]; rfl, allocK _ _⟩
    · rename_i hge
      have hge : ¬ u < 10 := by omega
      have hv : u % 10 < 10 := by omega
      have ih' : ∀ W : World, Calls Tryd.prog 51 #[.int .u64 ((u : Int) / 10)] W fun e w' => e = .returned (.string (decT (u / 10))) ∧ K0 W w' := by
        have e1 : (u : Int) / 10 = ((u / 10 : Nat) : Int) := by omega
        rw [e1]
        exact fun W => ih (u / 10) (by omega) W (by omega)
      have hcv : ∀ W : World, (convert 101 9 (.slice (some ⟨W.heap.size, 0, none⟩) 1 1)).run Tryd.prog (W.alloc (.cells #[.int .u8 (48 + (u : Int) % 10)] 5)) = .ok (.string (dgB (u % 10))) (W.alloc (.cells #[.int .u8 (48 + (u : Int) % 10)] 5)) := by
        have e2 : (u : Int) % 10 = ((u % 10 : Nat) : Int) := by omega
        rw [e2]
        exact fun W => conv1 W hv
      have hcw : ∀ W w1 : World, K0 (W.alloc (.cells #[.int .u8 (48 + (u : Int) % 10)] 5)) w1 → (convert 101 9 (.slice (some ⟨W.heap.size, 0, none⟩) 1 1)).run Tryd.prog w1 = .ok (.string (dgB (u % 10))) w1 := by
        have e2 : (u : Int) % 10 = ((u % 10 : Nat) : Int) := by omega
        rw [e2]
        exact fun W w1 => convK hv
      have e3 : IntKind.u8.wrap (IntKind.u64.wrap (48 + (u : Int) % 10)) = 48 + (u : Int) % 10 := by
        have e2 : (u : Int) % 10 = ((u % 10 : Nat) : Int) := by omega
        rw [e2]
        exact e0 (u % 10) hv
      clear e0
      have hcx := hcw w _ (drewK _)
      have hsz : ¬ 9223372036854775807 < (decT (u / 10)).size + (dgB (u % 10)).size := by
        have h1 : (decT (u / 10)).size ≤ 20 := by
          have h2 : (Lib.decDigits (u / 10)).length ≤ 20 := by
            rw [Lib.decDigits_length]
            exact Lib.nDigits_le20 _ (by omega)
          simpa [decT, ByteArray.size] using h2
        rw [dgB_size]
        omega
      have e1 : IntKind.u64.wrap ((u : Int) / 10) = (u : Int) / 10 := IntWalk.u64_in _ ⟨by omega, by omega⟩
      have e2 : (u : Int).tmod 10 = (u : Int) % 10 := Int.tmod_eq_emod_of_nonneg (by omega)
      go_region_with (first
        | (go_at_call 51; refine (ih' _).mono ?_; rintro e w1 ⟨rfl, k1⟩; first | (have hcv2 : (convert 101 9 (.slice (some ⟨w.heap.size, 0, none⟩) 1 1)).run Tryd.prog w1 = .ok (.string (dgB (u % 10))) w1 := by first | exact hcw w.drew w1 k1 | exact hcw w w1 ((drewK _).trans k1)) | skip)
        | (rw [hcv]; simp only [Result.andThen]; rw [Oper.upon_value])
        | (rw [hcx]; simp only [Result.andThen]; rw [Oper.upon_value])
        | (rw [hcv2]; simp only [Result.andThen]; rw [Oper.upon_value])
)
      all_goals go_simp
      all_goals go_wp2
      all_goals go_ret
      all_goals refine ⟨by rw [decT_big' hge]; rfl, ?_⟩
      · exact ((drewK w).trans k1).trans (allocK _ _)
      · exact ((allocK w _).trans (drewK _)).trans k1
      · exact ((drewK w).trans (allocK _ _)).trans k1

/-- Digits: any int64. -/
theorem r1digits_any (x : Int) (w : World) (h : I64 x) : Calls Tryd.prog 28 #[.int .i64 x] w fun e w' => e = .returned (.string (decI x)) ∧ K0 w w' := by
  obtain ⟨h1, h2⟩ := h
  refine vc_r1digits x w _ (bsp_intro (fun hn => ?_) (fun hn => ?_))
  · have hn : x < 0 := by simpa using hn
    obtain ⟨u, hu⟩ : ∃ u : Nat, x = -(u : Int) := ⟨x.natAbs, by omega⟩
    subst hu
    have e1 : IntKind.u64.wrap (IntKind.u64.wrap (IntKind.i64.wrap (0 - IntKind.i64.wrap (-(u : Int) + 1))) + 1) = ((u : Nat) : Int) := by
      rw [IntWalk.i64_in (-(u : Int) + 1) ⟨by omega, by omega⟩, IntWalk.i64_in _ ⟨by omega, by omega⟩, IntWalk.u64_in (0 - (-(u : Int) + 1)) ⟨by omega, by omega⟩, IntWalk.u64_in (0 - (-(u : Int) + 1) + 1) ⟨by omega, by omega⟩]
      omega
    rw [e1]
    have hl : (decT u).size ≤ 20 := by
      have h2 : (Lib.decDigits u).length ≤ 20 := by
        rw [Lib.decDigits_length]
        exact Lib.nDigits_le20 _ (by omega)
      simpa [decT, ByteArray.size] using h2
    refine ⟨(plain_any u w (by omega)).mono ?_⟩
    rintro e w1 ⟨rfl, k1⟩
    refine ⟨decT u, rfl, .of_k0 k1, ?_, ?_, k1⟩
    · have e45 : (ByteArray.mk #[45]).size = 1 := rfl
      rw [e45]
      exact nneg (by omega)
    · have : decI (-(u : Int)) = ⟨#[45]⟩ ++ decT u := by
        unfold decI decT
        rw [Lib.itoa_neg u (by omega)]
        exact ByteArray.ext (by simp)
      rw [this]
  · have hn : 0 ≤ x := by simpa using hn
    obtain ⟨u, rfl⟩ : ∃ u : Nat, x = (u : Int) := ⟨x.toNat, by omega⟩
    rw [IntWalk.u64_in _ ⟨by omega, by omega⟩]
    refine ⟨(plain_any u w (by omega)).mono ?_⟩
    rintro e w1 ⟨rfl, k1⟩
    refine ⟨decT u, rfl, .of_k0 k1, ?_, k1⟩
    unfold decI decT
    rw [Lib.itoa_nonneg]

end Go.Proofs.YtmlmdljnfokebaaDoor
