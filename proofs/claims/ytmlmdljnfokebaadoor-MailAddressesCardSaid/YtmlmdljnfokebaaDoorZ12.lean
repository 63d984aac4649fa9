/- Chapter 49: addresses: ParseAddress, the reference's user, site, Text, Address; MailAddresses on worlds. -/
import Derived.Test.YtmlmdljnfokebaaDoorZ10
import Derived.Test.YtmlmdljnfokebaaDoorZ11
namespace Go.Proofs.YtmlmdljnfokebaaDoor
open Go.RowKit

/-- The library's variable MaxLen holds a number. -/
def GX (w : World) : Prop := ∃ m, w.cell? ⟨0, 0, none⟩ = some (.int .i64 m)
theorem GX.k0 {w w' : World} (h : GX w) (hk : K0 w w') : GX w' := by
  obtain ⟨m, h⟩ := h; exact ⟨m, hk.cell' h (fun h => h)⟩

/-! ### Plain -/
def cntAt (s : ByteArray) : Nat := Lib.countByte s.data.toList 64
/-- The address that a text denotes, and the error. -/
def adrP (s : ByteArray) : (ByteArray × ByteArray) × Int :=
  if cntAt s ≠ 1 then ((⟨#[]⟩, ⟨#[]⟩), 3) else if userB (s.extract 0 (findC 64 s)) = false then ((⟨#[]⟩, ⟨#[]⟩), 12) else
  if siteE (s.extract (findC 64 s + 1) s.size) ≠ 0 then ((⟨#[]⟩, ⟨#[]⟩), siteE (s.extract (findC 64 s + 1) s.size)) else ((s.extract 0 (findC 64 s), s.extract (findC 64 s + 1) s.size), 0)
theorem cnt_step {s : ByteArray} {i : Nat} (h : i < s.size) : Lib.countByte (s.data.toList.take (i + 1)) 64 = Lib.countByte (s.data.toList.take i) 64 + (if at8 s i = 64 then 1 else 0) := by
  unfold Lib.countByte
  rw [List.take_add_one, at8_byte h, List.count_append]
  congr 1
  have := u8C 64 (at8_bd s i).1 (at8_bd s i).2
  by_cases e : at8 s i = 64
  · rw [if_pos e, this.2 e]; rfl
  · rw [if_neg e]
    have h1 : ¬ (at8 s i).toNat.toUInt8 = 64 := fun h => e (this.1 h)
    show List.count 64 [(at8 s i).toNat.toUInt8] = 0
    rw [List.count_singleton]
    simp [h1]
theorem cnt_one {s : ByteArray} (h : cntAt s = 1) : findC 64 s < s.size := by
  have hf := findC_first 64 s
  rcases Nat.lt_or_ge (findC 64 s) s.size with h' | h'
  · exact h'
  · exfalso
    have he : findC 64 s = s.size := by have := hf.2.1; omega
    have h0 : cntAt s = 0 := by
      unfold cntAt Lib.countByte
      rw [List.count_eq_zero]
      intro hm
      obtain ⟨j, hj, e⟩ := List.getElem_of_mem hm
      have hj' : j < s.size := by simpa using hj
      have := (getC 64).1 (show s.data.toList[j]? = some 64 by rw [List.getElem?_eq_getElem hj, e])
      exact hf.2.2.1 j (by omega) (by omega) this.2
    omega
theorem ext_all (s : ByteArray) : (⟨s.data.toList.toArray⟩ : ByteArray) = s := by simp

/-! ### The program's -/
theorem mparse_any (s : ByteArray) (w : World) (hs : s.size ≤ 1073741824) (hG : GX w) :
    Calls Tryd.prog 19 #[.string s] w fun e w' => e = .returned (.tuple #[.agg #[.string (adrP s).1.1, .string (adrP s).1.2], .int .i64 (adrP s).2]) ∧ K0 w w' := by
  refine vc_mparse s w _ (fun n W hW => ?_)
  have kW : K0 w W := hW.kk rfl
  unfold adrP
  refine ⟨(Tryd.strings_Count_one s 64 W).mono fun e w1 ⟨he, hw⟩ => ⟨_, he, ?_⟩⟩
  subst hw
  refine ⟨.refl _ _, bsp_intro (fun h => fun W2 hW2 => ?_) (fun h => ?_)⟩
  · have h : cntAt s ≠ 1 := by simp at h; unfold cntAt; omega
    rw [if_pos h]; exact ⟨rfl, hW2.k0 kW⟩
  have h1 : cntAt s = 1 := by simp at h; unfold cntAt; omega
  rw [if_neg (by omega)]
  have hlt := cnt_one h1
  have hf := findC_first 64 s
  have hcut := cut_hit hf hlt
  obtain ⟨mm, hG1⟩ := hG.k0 kW
  refine ⟨(Tryd.strings_Cut s ⟨#[64]⟩ mm w1 (by omega) hG1).mono fun e w2 ⟨he, k, hw⟩ => ?_⟩
  rw [show (⟨#[64]⟩ : ByteArray).data.toList = [64] from rfl, hcut] at he
  simp only [ext_all] at he
  have k2 : K0 w1 w2 := by rw [hw]; exact ⟨rfl, rfl, rfl, Nat.le_refl _, fun _ _ _ => rfl⟩
  generalize s.extract 0 (findC 64 s) = u at *
  generalize s.extract (findC 64 s + 1) s.size = t at *
  refine ⟨_, _, _, he, .of_k0 k2, ?_⟩
  refine ⟨(user_any u w2).mono fun e w3 ⟨he, k3⟩ => ⟨_, he, .of_k0 k3, bsp_intro (fun h => fun W2 hW2 => ?_) (fun h => ?_)⟩⟩
  · rw [if_pos (by simpa using h)]; exact ⟨rfl, hW2.k0 ((kW.trans k2).trans k3)⟩
  rw [if_neg (by simpa using h)]
  refine ⟨(siteK_any t w3).mono fun e w4 ⟨he, k4⟩ => ⟨_, _, he, .of_k0 k4, bsp_intro (fun h => fun W2 hW2 => ?_) (fun h => fun W2 hW2 => ?_)⟩⟩
  · rw [if_pos (show siteE t ≠ 0 by simpa [siteE] using h)]; exact ⟨rfl, hW2.k0 (((kW.trans k2).trans k3).trans k4)⟩
  · rw [if_neg (show ¬ siteE t ≠ 0 by simpa [siteE] using h)]; exact ⟨rfl, hW2.k0 (((kW.trans k2).trans k3).trans k4)⟩

/-! ### The reference's -/
theorem xuser_any (s : ByteArray) (w : World) (hs : s.size ≤ 4611686018427387904) :
    Calls Tryd.prog 39 #[.string s] w fun e w' => e = .returned (.bool (userB s)) ∧ K0 w w' := by
  refine vc_xuser s w _ ?_
  refine ⟨fun vs w' => ∃ i : Nat, vs = [.int .i64 (i : Int)] ∧ i ≤ s.size ∧ (∀ j, j < i → userC (at8 s j) = true) ∧ K0 w w',
    fun vs _ => (match vs with | .int _ x :: _ => s.size - x.toNat | _ => 0), ⟨0, rfl, by omega, (fun j h => by omega), .refl _ _⟩, ?_⟩
  rintro x w1 ⟨i, hv, hi, hall, k1⟩
  simp only [List.cons.injEq, Value.int.injEq, true_and, and_true] at hv
  subst hv
  refine bsp_intro (fun hlt => ?_) (fun hge => ?_)
  · have hlt : i < s.size := by simp at hlt; omega
    rw [Int.toNat_natCast]
    have eC : (!lowerB (at8 s i) && !digitB (at8 s i) && at8 s i != 45 && at8 s i != 95 && at8 s i != 46 && at8 s i != 43) = !userC (at8 s i) := by
      unfold userC
      simp only [bne]
      cases lowerB (at8 s i) <;> cases digitB (at8 s i) <;> simp
    rw [eC]
    refine ⟨⟨by omega, by omega⟩, bsp_intro (fun h => ?_) (fun h => ?_)⟩
    · have h : userC (at8 s i) = false := by simpa using h
      have : userB s = false := by
        unfold userB
        have : ((List.range s.size).all fun i => userC (at8 s i)) = false := by
          rw [List.all_eq_false]; exact ⟨i, List.mem_range.2 hlt, by simp [h]⟩
        rw [this]; simp
      rw [this]; exact ⟨rfl, k1⟩
    · have h : userC (at8 s i) = true := by simpa using h
      refine ⟨⟨i + 1, by rw [inc64 (by omega)], hlt, fun j hj => ?_, k1⟩, by rw [inc64 (by omega)]; simp only [Int.toNat_natCast]; omega⟩
      by_cases e : j = i
      · rw [e]; exact h
      · exact hall j (by omega)
  · have hi : i = s.size := by simp at hge; omega
    subst hi
    have : userB s = decide (s.size ≤ 40) := by
      unfold userB
      have : ((List.range s.size).all fun i => userC (at8 s i)) = true := all_at.2 fun j hj => hall j hj
      rw [this]; simp
    refine ⟨?_, k1⟩
    rw [this]
    congr 2
    apply decide_eq_decide.2
    omega
theorem xsite_any (s : ByteArray) (w : World) : Calls Tryd.prog 25 #[.string s] w fun e w' => e = .returned (.int .i64 (siteE s)) ∧ K0 w w' :=
  vc_xsite s w _ ⟨(refSite_any s w).mono fun e w1 ⟨he, hw⟩ => ⟨_, _, he, by subst hw; exact .refl _ _, rfl, by rw [hw]; exact .refl _ _⟩⟩
theorem xtext_any (a b : ByteArray) (w : World) (ha : a.size ≤ 1073741824) (hb : b.size ≤ 1073741824) :
    Calls Tryd.prog 27 #[.agg #[.string a, .string b]] w fun e w' => e = .returned (.string (a ++ ⟨#[64]⟩ ++ b)) ∧ K0 w w' := by
  refine vc_xtext a b w _ fun n => ⟨nneg (by rw [size_one]; omega), nneg (by rw [ByteArray.size_append, size_one]; omega), fun W hW => ⟨rfl, hW.kk rfl⟩⟩
theorem xaddr_any (s : ByteArray) (w : World) (hs : s.size ≤ 1073741824) :
    Calls Tryd.prog 20 #[.string s] w fun e w' => e = .returned (.tuple #[.agg #[.string (adrP s).1.1, .string (adrP s).1.2], .int .i64 (adrP s).2]) ∧ K0 w w' := by
  refine vc_xaddr s w _ (fun n W hW => ?_)
  have kW : K0 w W := hW.kk rfl
  unfold adrP
  refine ⟨fun vs w' => ∃ (i c p : Nat), vs = [.int .i64 (i : Int), .int .i64 (c : Int), .int .i64 (p : Int)] ∧ i ≤ s.size ∧ c = Lib.countByte (s.data.toList.take i) 64 ∧ c ≤ i ∧ p ≤ i ∧ (c = 0 → ∀ j, j < i → at8 s j ≠ 64) ∧ (c = 1 → p < i ∧ at8 s p = 64 ∧ ∀ j, j < p → at8 s j ≠ 64) ∧ K0 w w',
    fun vs _ => (match vs with | .int _ x :: _ => s.size - x.toNat | _ => 0), ⟨0, 0, 0, rfl, by omega, rfl, by omega, by omega, (fun _ j h => by omega), (fun h => by omega), kW⟩, ?_⟩
  rintro x x1 x2 w1 ⟨i, c, p, hv, hi, hc, hci, hpi, h0, h1, k1⟩ hL
  simp only [List.cons.injEq, Value.int.injEq, true_and, and_true] at hv
  obtain ⟨rfl, rfl, rfl⟩ := hv
  refine bsp_intro (fun hlt => ?_) (fun hge => ?_)
  · have hlt : i < s.size := by simp at hlt; omega
    rw [Int.toNat_natCast]
    have hst := cnt_step hlt
    refine ⟨⟨by omega, by omega⟩, bsp_intro (fun h => ?_) (fun h => ?_)⟩
    · have h : at8 s i = 64 := by simpa using h
      rw [if_pos h] at hst
      refine ⟨⟨i + 1, c + 1, i, by rw [inc64 (by omega), inc64 (by omega)], hlt, by omega, by omega, by omega, (fun h => by omega), fun hc1 => ⟨by omega, h, fun j hj => h0 (by omega) j hj⟩, k1⟩, by rw [inc64 (by omega)]; simp only [Int.toNat_natCast]; omega⟩
    · have h : at8 s i ≠ 64 := by simpa using h
      rw [if_neg h] at hst
      refine ⟨⟨i + 1, c, p, by rw [inc64 (by omega)], hlt, by omega, by omega, by omega, fun hc0 j hj => ?_, fun hc1 => ⟨by have := (h1 hc1).1; omega, (h1 hc1).2⟩, k1⟩, by rw [inc64 (by omega)]; simp only [Int.toNat_natCast]; omega⟩
      by_cases e : j = i
      · rw [e]; exact h
      · exact h0 hc0 j (by omega)
  · have hi : i = s.size := by simp at hge; omega
    subst hi
    have hca : c = cntAt s := by
      rw [hc]; unfold cntAt
      congr 1
      exact List.take_of_length_le (by simp)
    refine bsp_intro (fun h => fun W2 hW2 => ?_) (fun h => ?_)
    · rw [if_pos (by simp at h; omega)]; exact ⟨rfl, hW2.k0 k1⟩
    have hc1 : c = 1 := by simp at h; omega
    rw [if_neg (by omega)]
    obtain ⟨hp1, hp2, hp3⟩ := h1 hc1
    have hfe : findC 64 s = p := (findC_first 64 s).uniq ⟨by omega, by omega, fun j _ hj => hp3 j hj, fun _ => hp2⟩
    rw [hfe, inc64 (by omega), Int.toNat_natCast, Int.toNat_natCast]
    have hu : (s.extract 0 p).size ≤ 1073741824 := by rw [ByteArray.size_extract]; omega
    generalize s.extract 0 p = u at *
    generalize s.extract (p + 1) s.size = t at *
    refine ⟨⟨by omega, by omega⟩, ⟨(xuser_any u w1 (by omega)).mono fun e w3 ⟨he, k3⟩ => ⟨_, he, .of_k0 k3, bsp_intro (fun h => fun W2 hW2 => ?_) (fun h => ?_)⟩⟩⟩
    · rw [if_pos (by simpa using h)]; exact ⟨rfl, hW2.k0 (k1.trans k3)⟩
    rw [if_neg (by simpa using h)]
    refine ⟨⟨by omega, by omega⟩, ⟨(xsite_any t w3).mono fun e w4 ⟨he, k4⟩ => ⟨_, he, .of_k0 k4, bsp_intro (fun h => ?_) (fun h => ?_)⟩⟩⟩
    · rw [if_pos (by simpa using h)]
      exact ⟨⟨by omega, by omega⟩, ⟨(xsite_any t w4).mono fun e w5 ⟨he, k5⟩ => ⟨_, he, .of_k0 k5, fun W2 hW2 => ⟨rfl, hW2.k0 (((k1.trans k3).trans k4).trans k5)⟩⟩⟩⟩
    · rw [if_neg (by simpa using h)]
      exact ⟨⟨by omega, by omega⟩, ⟨by omega, by omega⟩, fun W2 hW2 => ⟨rfl, hW2.k0 ((k1.trans k3).trans k4)⟩⟩

/-! ### The statement -/
theorem adr_back {s : ByteArray} (h : (adrP s).2 = 0) : (adrP s).1.1 ++ ⟨#[64]⟩ ++ (adrP s).1.2 = s := by
  unfold adrP at *
  split at h
  · cases h
  rename_i h1
  rw [if_neg h1]
  have h1 : cntAt s = 1 := Classical.byContradiction h1
  split at h
  · cases h
  rename_i h2
  rw [if_neg h2]
  split at h
  · rename_i h3; exact absurd h h3
  rename_i h3
  rw [if_neg h3]
  have hlt := cnt_one h1
  have hf := findC_first 64 s
  have h64 := hf.2.2.2 hlt
  generalize findC 64 s = i at *
  show s.extract 0 i ++ ⟨#[64]⟩ ++ s.extract (i + 1) s.size = s
  have e64 : (⟨#[64]⟩ : ByteArray) = s.extract i (i + 1) := by
    apply ByteArray.ext_getElem
    · rw [size_one, ByteArray.size_extract]; omega
    · intro k hk hk'
      rw [size_one] at hk
      obtain rfl : k = 0 := by omega
      have a1 := at8_extract s i (i + 1) 0 (by omega) (by omega)
      rw [show i + 0 = i from rfl, h64, at8_lt _ _ hk'] at a1
      apply UInt8.toNat_inj.1
      have a2 : ((s.extract i (i + 1))[0].toNat : Int) = 64 := a1
      show (64 : UInt8).toNat = _
      have : (64 : UInt8).toNat = 64 := rfl
      omega
  rw [e64, ByteArray.extract_append_extract, Nat.zero_min, Nat.max_eq_right (Nat.le_succ i), ByteArray.extract_append_extract, Nat.zero_min, Nat.max_eq_right (by omega)]
  simp
theorem laddr_any (s : ByteArray) (w : World) (hs : s.size ≤ 4611686018427387904) (hG : GX w) (hT : GT w) :
    Calls Tryd.prog 7 #[.string s] w fun e w' => e = .returned (.bool true) ∧ K0 w w' := by
  refine vc_laddr s w _ ?_
  unfold VC_laddr
  have hk : ∃ k : Nat, (if 120 < (s.size : Int) then (120 : Int) else (s.size : Int)) = k ∧ k ≤ 120 ∧ k ≤ s.size := by
    split
    · exact ⟨120, rfl, by omega, by omega⟩
    · exact ⟨s.size, rfl, by omega, by omega⟩
  obtain ⟨k, ek, hk1, hk2⟩ := hk
  rw [ek, Int.toNat_natCast]
  have hz : (s.extract 0 k).size ≤ 120 := by rw [ByteArray.size_extract]; omega
  generalize s.extract 0 k = t at *
  refine ⟨⟨by omega, by omega⟩, ⟨(mparse_any t w (by omega) hG).mono fun e w1 ⟨he, k1⟩ => ⟨_, _, _, he, .of_k0 k1, fun n W hW => ?_⟩⟩⟩
  have k2 : K0 w1 W := hW.kk rfl
  refine ⟨(xaddr_any t W (by omega)).mono fun e w3 ⟨he, k3⟩ => ⟨_, _, _, he, .of_k0 k3, fun n1 W4 hW4 => ?_⟩⟩
  have k4 : K0 w3 W4 := hW4.kk rfl
  have k04 := ((k1.trans k2).trans k3).trans k4
  have hb := hW4.cells 0 rfl
  have ha := hW4.cells 1 rfl
  refine ⟨(known_any W4 (hT.k0 k04)).mono fun e w5 ⟨he, k5⟩ => ⟨_, he, .of_k0 k5, ?_⟩⟩
  refine ⟨_, gimp_intro fun _ => cell_at (k5.blk ha (fun h => h)) rfl, _, gimp_intro fun _ => cell_at (k5.blk hb (fun h => h)) rfl, _, gimp_intro fun _ => cell_at (k5.blk ha (fun h => h)) rfl, _, gimp_intro fun _ => cell_at (k5.blk hb (fun h => h)) rfl, bsp_intro (fun _ => ?_) (fun h => by simp at h)⟩
  refine bsp_intro (fun h => ?_) (fun h => ⟨.refl _ _, rfl, k04.trans k5⟩)
  have h0 : (adrP t).2 = 0 := by simpa using h
  have hback := adr_back h0
  have hsz := congrArg ByteArray.size hback
  simp only [ByteArray.size_append, size_one] at hsz
  refine ⟨(mstr_any (adrP t).1.1 (adrP t).1.2 w5 (by omega) (by omega)).mono fun e w6 ⟨he, k6⟩ => ⟨_, he, .of_k0 k6, ?_, (k04.trans k5).trans k6⟩⟩
  rw [hback]; simp

end Go.Proofs.YtmlmdljnfokebaaDoor
