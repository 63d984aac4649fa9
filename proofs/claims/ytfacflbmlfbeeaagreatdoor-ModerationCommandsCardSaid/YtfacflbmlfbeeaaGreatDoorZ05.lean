/- Chapter 21: the contracts of groupname.Check and of the reference's Check of a name. The library's variable MaxLen holds a number. -/
import Derived.Test.YtfacflbmlfbeeaaGreatDoorZ04
import Derived.Test.YtfacflbmlfbeeaaGreatDoorProg
import Derived.Test.YtfacflbmlfbeeaaGreatDoorZ02
import Derived.Test.YtfacflbmlfbeeaaGreatDoorZ03
import Derived.KernelRfl
import Derived.Maps.RangeRun
import Derived.Shelf.SlGeneric
import Derived.Shelf.SlSortCmp.NoneTotal
import Derived.Ground.SlsfProg
import Derived.Lib.BytesEntry
import Derived.Sort.Grow
import Derived.RangeFuncNested
import Derived.RangeFuncBound
import Derived.RangeFuncCalls
import Derived.RangeFuncLeaves
import Derived.RangeFuncBox
import Derived.Shelf.Abstract
import Derived.Shelf.RegionOpen
import Derived.WalkKit
import Derived.OwnWalkIn
import Derived.TacticsInMore
import Derived.LoopNIn
import Derived.LoopIn
namespace Go.Proofs.YtfacflbmlfbeeaaGreatDoor
open Go.RowKit
/-- The library's variable MaxLen holds a number. -/
def GW (w : World) : Prop := ∃ m, w.cell? ⟨0, 0, none⟩ = some (.int .i64 m)
theorem GW.kp {M : Nat → Prop} {w w' : World} (h : GW w) (hk : Kp M w w') (hm : ¬ M 0) : GW w' := by
  obtain ⟨m, h⟩ := h; exact ⟨m, hk.cell' h hm⟩
theorem byte_cell {w : World} {g : Nat} {s : ByteArray} {c : Nat} {t : TypeId} {fz : Nat × Nat} (h : w.heap[g]? = some (.cells (bytesRow s c) t fz)) {k : Nat} (hk : k < s.size) : w.cell? ⟨g, 0 + k, none⟩ = some (.int .u8 (at8 s k)) := by
  rw [cell_block h, Nat.zero_add, bytesRow_at s c k hk, at8_lt s k hk]
  rfl
theorem T0.at8_extract (s : ByteArray) (a b j : Nat) (h : a + j < b) (hb : b ≤ s.size) : at8 (s.extract a b) j = at8 s (a + j) := Go.Proofs.YtfacflbmlfbeeaaGreatDoor.at8_extract s a b j h hb

theorem nn_is {g : Bool} {p : Option Addr} {b o : Nat} {K : Nat → Nat → Prop} (hp : p = some ⟨b, o, none⟩) (h : K b o) : nn g p K := by subst hp; exact h
theorem nneg {a : Nat} (h : a ≤ 4611686018427387904) : ((9223372036854775807 : Int) - (a : Int)).NonNeg :=
  Int.nonneg_def.2 ⟨9223372036854775807 - a, by omega⟩
theorem str_get {w : World} {p : Option Addr} {zs : List ByteArray} (h : StrP w p zs) {k : Nat} (hk : k < zs.length) : ∃ z b o, zs[k]? = some z ∧ p = some ⟨b, o, none⟩ ∧ w.cell? ⟨b, o + k, none⟩ = some (.string z) := h.get hk
theorem bcon_any (s : ByteArray) (b c : Nat) (f : FuncId) (fa fb : Array Value) (g : Int → Bool) (w : World) (hS : ∀ k, k < s.size → w.cell? ⟨b, 0 + k, none⟩ = some (.int .u8 (at8 s k))) (hs : s.size ≤ 1073741824) (hok : okFn Tryz.prog f = true)
    (hF : ∀ x, ∀ w1, K0 w w1 → Calls Tryz.prog f (appA fa [.int .u8 x] fb) w1 fun e w2 => e = .returned (.bool (g x)) ∧ K0 w1 w2) :
    Calls Tryz.prog 111 #[.slice (some ⟨b, 0, none⟩) s.size c, .func (.func f) fa fb] w fun e w' => e = .returned (.bool ((List.range s.size).any fun i => g (at8 s i))) ∧ K0 w w' := by
  have hidx : Calls Tryz.prog 134 #[.slice (some ⟨b, 0, none⟩) s.size c, .func (.func f) fa fb] w fun e w' => (∃ x : Int, e = .returned (.int .i64 x) ∧ decide (x ≥ 0) = (List.range s.size).any fun i => g (at8 s i)) ∧ K0 w w' := by
    refine vc_bidx (some ⟨b, 0, none⟩) s.size c f fa fb w _ ?_
    refine ⟨fun vs w' => ∃ i : Nat, vs = [.int .i64 (i : Int)] ∧ i ≤ s.size ∧ (∀ j, j < i → g (at8 s j) = false) ∧ K0 w w',
      fun vs _ => (match vs with | .int _ x :: _ => s.size - x.toNat | _ => 0), ⟨0, rfl, by omega, (fun j h => by omega), .refl _ _⟩, ?_⟩
    rintro x w1 ⟨i, hv, hi, hall, k1⟩
    simp only [List.cons.injEq, Value.int.injEq, true_and, and_true] at hv
    subst hv
    refine bsp_intro (fun hlt => ?_) (fun hge => ?_)
    · have hlt : i < s.size := by simp at hlt; omega
      rw [Int.toNat_natCast]
      refine nn_is rfl ⟨⟨by omega, by omega⟩, at8 s i, k1.cell' (hS i hlt) (fun h => h), f, fa, fb, rfl, hok, ⟨(hF (at8 s i) w1 k1).mono fun e w2 ⟨he, k2⟩ => ⟨_, he, .of_k0 k2, bsp_intro (fun hg => ?_) (fun hg => ?_)⟩⟩⟩
      · refine ⟨⟨i, rfl, ?_⟩, k1.trans k2⟩
        have : ((List.range s.size).any fun i => g (at8 s i)) = true := List.any_eq_true.2 ⟨i, List.mem_range.2 hlt, hg⟩
        rw [this]; simp
      · refine ⟨⟨i + 1, by rw [inc64 (by omega)], hlt, fun j hj => ?_, k1.trans k2⟩, by rw [inc64 (by omega)]; simp only [Int.toNat_natCast]; omega⟩
        by_cases e : j = i
        · rw [e]; exact hg
        · exact hall j (by omega)
    · have hi : i = s.size := by simp at hge; omega
      subst hi
      refine ⟨⟨-1, rfl, ?_⟩, k1⟩
      have : ((List.range s.size).any fun i => g (at8 s i)) = false := List.any_eq_false.2 fun j hj => by simpa using hall j (List.mem_range.1 hj)
      rw [this]; rfl
  refine vc_bcon (some ⟨b, 0, none⟩) s.size c f fa fb w _ ⟨hidx.mono fun e w1 ⟨⟨x, he, hx⟩, k1⟩ => ⟨_, he, .of_k0 k1, by rw [hx], k1⟩⟩
theorem scon_any (l : List ByteArray) (p : Option Addr) (c : Nat) (f : FuncId) (fa fb : Array Value) (g : ByteArray → Bool) (w : World) (hR : StrP w p l) (hs : l.length ≤ 1073741824) (hok : okFn Tryz.prog f = true)
    (hF : ∀ x, ∀ w1, K0 w w1 → Calls Tryz.prog f (appA fa [.string x] fb) w1 fun e w2 => e = .returned (.bool (g x)) ∧ K0 w1 w2) :
    Calls Tryz.prog 88 #[.slice p l.length c, .func (.func f) fa fb] w fun e w' => e = .returned (.bool (l.any g)) ∧ K0 w w' := by
  have hidx : Calls Tryz.prog 109 #[.slice p l.length c, .func (.func f) fa fb] w fun e w' => (∃ x : Int, e = .returned (.int .i64 x) ∧ decide (x ≥ 0) = l.any g) ∧ K0 w w' := by
    refine vc_sidx p l.length c f fa fb w _ ?_
    refine ⟨fun vs w' => ∃ i : Nat, vs = [.int .i64 (i : Int)] ∧ i ≤ l.length ∧ (∀ j z, j < i → l[j]? = some z → g z = false) ∧ K0 w w',
      fun vs _ => (match vs with | .int _ x :: _ => l.length - x.toNat | _ => 0), ⟨0, rfl, by omega, (fun j z h => by omega), .refl _ _⟩, ?_⟩
    rintro x w1 ⟨i, hv, hi, hall, k1⟩
    simp only [List.cons.injEq, Value.int.injEq, true_and, and_true] at hv
    subst hv
    refine bsp_intro (fun hlt => ?_) (fun hge => ?_)
    · have hlt : i < l.length := by simp at hlt; omega
      obtain ⟨z, b, o, hz, hp, hc⟩ := str_get (hR.k0 k1) hlt
      rw [Int.toNat_natCast]
      refine nn_is hp ⟨⟨by omega, by omega⟩, z, hc, f, fa, fb, rfl, hok, ⟨(hF z w1 k1).mono fun e w2 ⟨he, k2⟩ => ⟨_, he, .of_k0 k2, bsp_intro (fun hg => ?_) (fun hg => ?_)⟩⟩⟩
      · refine ⟨⟨i, rfl, ?_⟩, k1.trans k2⟩
        have : l.any g = true := List.any_eq_true.2 ⟨z, List.mem_of_getElem? hz, hg⟩
        rw [this]; simp
      · refine ⟨⟨i + 1, by rw [inc64 (by omega)], hlt, fun j y hj hy => ?_, k1.trans k2⟩, by rw [inc64 (by omega)]; simp only [Int.toNat_natCast]; omega⟩
        by_cases e : j = i
        · rw [e, hz] at hy; cases hy; exact hg
        · exact hall j y (by omega) hy
    · have hi : i = l.length := by simp at hge; omega
      subst hi
      refine ⟨⟨-1, rfl, ?_⟩, k1⟩
      have : l.any g = false := List.any_eq_false.2 fun z hz => by
        obtain ⟨j, hj, e⟩ := List.getElem_of_mem hz
        simpa using hall j z hj (by rw [List.getElem?_eq_getElem hj, e])
      rw [this]; rfl
  refine vc_scon p l.length c f fa fb w _ ⟨hidx.mono fun e w1 ⟨⟨x, he, hx⟩, k1⟩ => ⟨_, he, .of_k0 k1, by rw [hx], k1⟩⟩

/-! ### The program's -/
theorem gisl_any (c : Int) (w : World) : Calls Tryz.prog 110 #[.int .u8 c] w fun e w' => e = .returned (.bool (lowC c)) ∧ K0 w w' :=
  vc_gisl c w _ ⟨by unfold lowC; simp, .refl _ _⟩
theorem gcompC_any (c : Int) (w : World) : Calls Tryz.prog 112 #[.int .u8 c] w fun e w' => e = .returned (.bool (!compC c)) ∧ K0 w w' := by
  refine vc_gcompC c w _ ⟨(gisl_any c w).mono fun e w1 ⟨he, k1⟩ => ⟨_, he, .of_k0 k1, ?_, k1⟩⟩
  congr 2
  unfold compC
  rw [Bool.eq_iff_iff]
  cases lowC c <;> simp <;> omega
theorem compB_eq {s : ByteArray} (h0 : 0 < s.size) (h1 : s.size ≤ 20) (h2 : lowC (at8 s 0) = true) : compB s = !((List.range s.size).any fun i => !compC (at8 s i)) := by
  unfold compB
  rw [decide_eq_true h0, decide_eq_true h1, h2, List.not_any_eq_all_not]
  simp
theorem gcomp_any (s : ByteArray) (w : World) : Calls Tryz.prog 90 #[.string s] w fun e w' => e = .returned (.bool (compB s)) ∧ K0 w w' := by
  refine vc_gcomp s w _ ?_
  unfold VC_gcomp
  rw [toList_nil]
  refine ⟨gimp_intro fun h => ?_, bsp_intro (fun h => ?_) (fun h => ?_)⟩
  · simp only [Bool.not_eq_true', Bool.or_eq_false_iff, decide_eq_false_iff_not] at h
    omega
  · simp only [Bool.not_eq_true', Bool.or_eq_false_iff, decide_eq_false_iff_not] at h
    have h0 : 0 < s.size := by omega
    have h1 : s.size ≤ 20 := by omega
    refine ⟨(gisl_any (at8 s 0) w).mono fun e w1 ⟨he, k1⟩ => ⟨_, he, .of_k0 k1, bsp_intro (fun h2 => ?_) (fun h2 => ?_)⟩⟩
    · have h2 : lowC (at8 s 0) = false := by simpa using h2
      have : compB s = false := by unfold compB; rw [h2]; simp
      rw [this]; exact ⟨rfl, k1⟩
    · have h2 : lowC (at8 s 0) = true := by simpa using h2
      intro c n w2 hc hn
      have k2 : K0 w1 w2 := (hn.kp (fun _ => False)).of_drew
      refine ⟨.of_k0 k2, ⟨(bcon_any s n c 112 #[] #[] (fun c => !compC c) w2 (fun k hk => byte_cell hn.block hk) (by omega) (by kernel_rfl) (fun x w3 _ => gcompC_any x w3)).mono fun e w3 ⟨he, k3⟩ => ⟨_, he, .of_k0 k3, ?_, (k1.trans k2).trans k3⟩⟩⟩
      rw [compB_eq h0 h1 h2]
  · have h : s.size = 0 ∨ 20 < s.size := by
      simp only [Bool.not_eq_false', Bool.or_eq_true, decide_eq_true_eq] at h
      omega
    have : compB s = false := by
      unfold compB
      rcases h with h | h
      · rw [decide_eq_false (by omega)]; rfl
      · rw [decide_eq_false (show ¬ s.size ≤ 20 by omega)]; simp
    rw [this]
    exact ⟨.refl _ _, rfl, .refl _ _⟩
theorem gcheckC_any (s : ByteArray) (w : World) : Calls Tryz.prog 89 #[.string s] w fun e w' => e = .returned (.bool (!compB s)) ∧ K0 w w' :=
  vc_gcheckC s w _ ⟨(gcomp_any s w).mono fun _ _ ⟨he, k1⟩ => ⟨_, he, .of_k0 k1, rfl, k1⟩⟩
theorem gparts_any (s : ByteArray) (w : World) (hs : s.size ≤ 1073741824) (hG : GW w) : Calls Tryz.prog 87 #[.string s] w fun e w' => (∃ (p : Option Addr) (c : Nat), e = .returned (.slice p (partsD s).length c) ∧ StrP w' p (partsD s)) ∧ K0 w w' := by
  refine vc_gparts s w _ ?_
  obtain ⟨mm, hG1⟩ := hG
  refine ⟨(Tryz.strings_Split s ⟨#[46]⟩ mm w (by omega) hG1 (by decide)).mono fun e w2 ⟨he, hw2⟩ => ?_⟩
  have hlen : (partsD s).length = Lib.countB s ⟨#[46]⟩ + 1 := Lib.splitB_all ⟨#[46]⟩ (by decide) 0 _ s rfl
  have hn2 : NewB w (.cells ((partsD s).map .string).toArray 9) w.heap.size w2 := ⟨rfl, hw2⟩
  rw [← hlen] at he
  have k2 : K0 w w2 := hn2.kp _
  refine ⟨_, _, _, he, .of_k0 k2, ⟨_, _, rfl, fun k z hk => ⟨_, 0, rfl, ?_⟩⟩, k2⟩
  rw [Nat.zero_add]
  exact cell_at hn2.block (by simp [hk])
theorem partsD_len {s : ByteArray} : (partsD s).length = Lib.countB s ⟨#[46]⟩ + 1 := Lib.splitB_all ⟨#[46]⟩ (by decide) 0 _ s rfl
theorem partsD_le : ∀ (n : Nat) (s : ByteArray), s.size ≤ n → (partsD s).length ≤ s.size + 1
  | n, s, h => by
    have hf := findC_first 46 s
    by_cases hi : findC 46 s < s.size
    · cases n with
      | zero => omega
      | succ n =>
        rw [partsD_hit hf hi, List.length_cons]
        have hz : (s.extract (findC 46 s + 1) s.size).size = s.size - (findC 46 s + 1) := by rw [ByteArray.size_extract]; omega
        have := partsD_le n (s.extract (findC 46 s + 1) s.size) (by omega)
        omega
    · rw [partsD_miss hf hi]; simp
theorem gcheck_any (s : ByteArray) (w : World) (hG : GW w) : Calls Tryz.prog 49 #[.string s] w fun e w' => e = .returned (.int .i64 (gnE s)) ∧ K0 w w' := by
  refine vc_gcheck s w _ (bsp_intro (fun h => ?_) (fun h => ?_))
  · have : gnE s = 5 := by unfold gnE; rw [if_pos (by simp at h; omega)]
    rw [this]; exact ⟨rfl, .refl _ _⟩
  have h80 : ¬ 80 < s.size := by simp at h; omega
  have hle := partsD_le s.size s (Nat.le_refl _)
  unfold gnE
  rw [if_neg h80]
  refine ⟨(gparts_any s w (by omega) hG).mono fun e w1 ⟨⟨p, c, he, hR⟩, k1⟩ => ⟨_, _, _, he, .of_k0 k1, ?_⟩⟩
  refine ⟨(scon_any (partsD s) p c 89 #[] #[] (fun x => !compB x) w1 hR (by omega) (by kernel_rfl) (fun x w2 _ => gcheckC_any x w2)).mono fun e w2 ⟨he, k2⟩ => ⟨_, he, .of_k0 k2, bsp_intro (fun h => ?_) (fun h => ?_)⟩⟩
  · rw [if_pos h]; exact ⟨rfl, k1.trans k2⟩
  rw [if_neg (by rw [h]; decide)]
  refine bsp_intro (fun h => ?_) (fun h => ?_)
  · rw [if_pos (by simp at h; omega)]; exact ⟨rfl, k1.trans k2⟩
  · rw [if_neg (by simp at h; omega)]; exact ⟨rfl, k1.trans k2⟩

/-! ### The reference's -/
theorem xcomp_any (s : ByteArray) (w : World) : Calls Tryz.prog 95 #[.string s] w fun e w' => e = .returned (.bool (compB s)) ∧ K0 w w' := by
  refine vc_xcomp s w _ ⟨gimp_intro fun h => ?_, gimp_intro fun h => ?_, bsp_intro (fun h => ?_) (fun h => ?_)⟩
  · simp only [Bool.not_eq_true', Bool.or_eq_false_iff, decide_eq_false_iff_not] at h; omega
  · simp only [Bool.not_eq_true', Bool.or_eq_false_iff, decide_eq_false_iff_not] at h; omega
  · have : compB s = false := by
      simp only [Bool.or_eq_true, decide_eq_true_eq] at h
      unfold compB
      by_cases h1 : 0 < s.size ∧ s.size ≤ 20
      · have : lowC (at8 s 0) = false := by
          unfold lowC
          rcases h with ((h | h) | h) | h
          · omega
          · omega
          · have h : at8 s 0 < 97 := h
            rw [decide_eq_false (by omega)]; rfl
          · have h : at8 s 0 > 122 := h
            rw [decide_eq_false (show ¬ at8 s 0 ≤ 122 by omega)]; simp
        rw [this]; simp
      · by_cases h2 : 0 < s.size
        · rw [decide_eq_false (show ¬ s.size ≤ 20 by omega)]; simp
        · rw [decide_eq_false h2]; rfl
    rw [this]; exact ⟨rfl, .refl _ _⟩
  simp only [Bool.or_eq_false_iff, decide_eq_false_iff_not] at h
  have h2 : lowC (at8 s 0) = true := by
    have a1 : ¬ at8 s 0 < 97 := h.1.2
    have a2 : ¬ at8 s 0 > 122 := h.2
    unfold lowC
    rw [decide_eq_true (by omega), decide_eq_true (by omega)]; rfl
  have hc0 : compC (at8 s 0) = true := by unfold compC; rw [h2]; rfl
  refine ⟨fun vs w' => ∃ i : Nat, vs = [.int .i64 (i : Int)] ∧ 1 ≤ i ∧ i ≤ s.size ∧ (∀ j, j < i → compC (at8 s j) = true) ∧ K0 w w',
    fun vs _ => (match vs with | .int _ x :: _ => s.size - x.toNat | _ => 0), ⟨1, rfl, by omega, by omega, (fun j h => by have e : j = 0 := (by omega); rw [e]; exact hc0), .refl _ _⟩, ?_⟩
  rintro x w1 ⟨i, hv, h1i, hi, hall, k1⟩
  simp only [List.cons.injEq, Value.int.injEq, true_and, and_true] at hv
  subst hv
  refine bsp_intro (fun hlt => ?_) (fun hge => ?_)
  · have hlt : i < s.size := by simp at hlt; omega
    rw [Int.toNat_natCast]
    have e : (!(decide (at8 s i ≥ 97) && decide (at8 s i ≤ 122) || decide (at8 s i ≥ 48) && decide (at8 s i ≤ 57) || at8 s i == 45 || at8 s i == 43 || at8 s i == 95)) = !compC (at8 s i) := by
      unfold compC lowC; rfl
    rw [e]
    refine ⟨⟨by omega, by omega⟩, bsp_intro (fun hb => ?_) (fun hb => ?_)⟩
    · have hb : compC (at8 s i) = false := by simpa using hb
      have : compB s = false := by
        unfold compB
        have : ((List.range s.size).all fun i => compC (at8 s i)) = false := by
          rw [List.all_eq_false]; exact ⟨i, List.mem_range.2 hlt, by simp [hb]⟩
        rw [this]; simp
      rw [this]; exact ⟨rfl, k1⟩
    · have hb : compC (at8 s i) = true := by simpa using hb
      refine ⟨⟨i + 1, by rw [inc64 (by omega)], by omega, hlt, fun j hj => ?_, k1⟩, by rw [inc64 (by omega)]; simp only [Int.toNat_natCast]; omega⟩
      by_cases e : j = i
      · rw [e]; exact hb
      · exact hall j (by omega)
  · have hi : i = s.size := by simp at hge; omega
    subst hi
    have : compB s = true := by
      unfold compB
      rw [decide_eq_true (by omega), decide_eq_true (by omega), h2]
      simp only [Bool.true_and, List.all_eq_true]
      exact fun j hj => hall j (List.mem_range.1 hj)
    rw [this]; exact ⟨rfl, k1⟩
theorem ext_nil (s : ByteArray) (i : Nat) : s.extract i i = ⟨#[]⟩ := by
  apply ByteArray.ext_getElem
  · rw [ByteArray.size_extract]
    show min i s.size - i = 0
    omega
  · intro k hk _
    rw [ByteArray.size_extract] at hk
    omega
theorem xparts_any (s : ByteArray) (w : World) (hs : s.size ≤ 1000000) : Calls Tryz.prog 94 #[.string s, .int .u8 46] w fun e w' => (∃ (p : Option Addr) (c : Nat), e = .returned (.slice p (partsD s).length c) ∧ StrP w' p (partsD s)) ∧ K0 w w' := by
  refine vc_xparts s 46 w _ ?_
  refine ⟨fun vs w' => ∃ (i a : Nat) (p : Option Addr) (c : Nat) (out : List ByteArray), vs = [.int .i64 (i : Int), .string (s.extract a i), .slice p out.length c] ∧ a ≤ i ∧ i ≤ s.size ∧ out.length ≤ i ∧ (∀ j, a ≤ j → j < i → at8 s j ≠ 46) ∧ partsD s = out ++ partsD (s.extract a s.size) ∧ w'.ownsRow w.heap.size 9 1 (.slice p out.length c) out.length (out.map .string) ∧ K0 w w',
    fun vs _ => (match vs with | .int _ x :: _ => s.size - x.toNat | _ => 0), ⟨0, 0, none, 0, [], by rw [ext_nil]; rfl, by omega, by omega, by simp, (fun j h1 h2 => by omega), by simp, ⟨rfl, .inl ⟨rfl, rfl⟩⟩, .refl _ _⟩, ?_⟩
  rintro x y p n c w1 ⟨i, a, p', c', out, hv, hai, hi, hol, hno, hP, ho, k1⟩
  simp only [List.cons.injEq, Value.int.injEq, Value.string.injEq, Value.slice.injEq, true_and, and_true] at hv
  obtain ⟨rfl, rfl, rfl, rfl, rfl⟩ := hv
  have hesz : (s.extract a s.size).size = s.size - a := by rw [ByteArray.size_extract]; omega
  have happ : ∀ (W : World), K0 w1 W → ∀ (n1 : Nat), W.heap[n1]? = some (.cells #[.string (s.extract a i)] 9 (0, 0)) → ∃ (base : Nat) (xs : List Value), W.ownsRow base 9 1 (.slice p out.length c) out.length xs ∧ out.length + 1 ≤ 9223372036854775807 ∧ (out.length + 1) * 16 ≤ 140737488355328 ∧ base ≤ W.heap.size ∧ base = w.heap.size ∧ xs = out.map .string := fun W k n1 _ =>
    ⟨w.heap.size, _, owns_kp ho k (fun _ _ h => h), by omega, by omega, Nat.le_trans k1.size k.size, rfl, rfl⟩
  refine bsp_intro (fun hlt => ?_) (fun hge => ?_)
  · have hlt : i < s.size := by simp at hlt; omega
    rw [Int.toNat_natCast]
    refine ⟨⟨by omega, by omega⟩, bsp_intro (fun hb => fun n1 W hW => ?_) (fun hb => ?_)⟩
    · have hb : at8 s i = 46 := by simpa using hb
      have kW : K0 w1 W := hW.kk rfl
      obtain ⟨base, xs, h1, h2, h3, h4, rfl, rfl⟩ := happ W kW n1 (hW.cells 0 rfl)
      refine ⟨_, _, h1, h2, h3, h4, fun p' c' w2 ho2 hg2 _ => ?_⟩
      have k2 : K0 w w2 := (k1.trans kW).fresh (kp_grown hg2) (fun j hj e => by have := own_ge ho e; omega)
      have hfst : FirstC 46 (s.extract a s.size) 0 (i - a) := ⟨Nat.zero_le _, by omega, fun j _ hj => by
        rw [T0.at8_extract s a s.size j (by omega) (Nat.le_refl _)]
        exact hno (a + j) (by omega) (by omega), fun h => by
        rw [T0.at8_extract s a s.size _ (by omega) (Nat.le_refl _), show a + (i - a) = i by omega]
        exact hb⟩
      have hh := partsD_hit hfst (by omega)
      have e1 : (s.extract a s.size).extract 0 (i - a) = s.extract a i := by rw [ByteArray.extract_extract]; congr 1; omega
      have e2 : (s.extract a s.size).extract (i - a + 1) (s.extract a s.size).size = s.extract (i + 1) s.size := by rw [hesz, ByteArray.extract_extract]; congr 1 <;> omega
      rw [e1, e2] at hh
      have el : (out ++ [s.extract a i]).length = out.length + 1 := by simp
      refine ⟨⟨(kp_grown hg2).size, fun _ hx => by cases hx⟩, ⟨i + 1, i + 1, p', c', out ++ [s.extract a i], by rw [inc64 (by omega), ext_nil, el], by omega, hlt, by rw [el]; omega, (fun j h1 h2 => by omega), by rw [hP, hh, List.append_assoc]; rfl, by rw [el, List.map_append]; exact ho2, k2⟩, by rw [inc64 (by omega)]; simp only [Int.toNat_natCast]; omega⟩
    · have hb : at8 s i ≠ 46 := by simpa using hb
      rw [inc64 (by omega), Int.toNat_natCast]
      have e1 : s.extract a i ++ s.extract i (i + 1) = s.extract a (i + 1) := by
        rw [ByteArray.extract_append_extract]; congr 1 <;> omega
      have z1 : (s.extract a i).size ≤ s.size := by rw [ByteArray.size_extract]; omega
      have z2 : (s.extract i (i + 1)).size ≤ s.size := by rw [ByteArray.size_extract]; omega
      rw [e1]
      refine ⟨⟨by omega, by omega, by omega⟩, nneg (by omega), ⟨i + 1, a, p, c, out, rfl, by omega, hlt, by omega, fun j h1 h2 => ?_, hP, ho, k1⟩, by simp only [Int.toNat_natCast]; omega⟩
      by_cases e : j = i
      · rw [e]; exact hb
      · exact hno j h1 (by omega)
  · have hi2 : i = s.size := by simp at hge; omega
    subst hi2
    intro n1 W hW
    have kW : K0 w1 W := hW.kk rfl
    obtain ⟨base, xs, h1, h2, h3, h4, rfl, rfl⟩ := happ W kW n1 (hW.cells 0 rfl)
    refine ⟨_, _, h1, h2, h3, h4, fun p' c' w2 ho2 hg2 _ => ?_⟩
    have k2 : K0 w w2 := (k1.trans kW).fresh (kp_grown hg2) (fun j hj e => by have := own_ge ho e; omega)
    have hh := partsD_miss (s := s.extract a s.size) (i := (s.extract a s.size).size) ⟨Nat.zero_le _, Nat.le_refl _, fun j _ hj => by
      rw [T0.at8_extract s a s.size j (by omega) (Nat.le_refl _)]
      exact hno (a + j) (by omega) (by omega), fun h => by omega⟩ (by omega)
    rw [hh] at hP
    have el : (out ++ [s.extract a s.size]).length = out.length + 1 := by simp
    rw [hP, el]
    refine ⟨⟨(kp_grown hg2).size, fun _ hx => by cases hx⟩, ⟨p', c', rfl, ?_⟩, k2⟩
    have : w2.ownsRow w.heap.size 9 1 (.slice p' (out.length + 1) c') (out.length + 1) ((out ++ [s.extract a s.size]).map .string) := by rw [List.map_append]; exact ho2
    intro k z hk
    obtain ⟨g, hp, hc⟩ := own_cellL this (i := k) (v := .string z) (by rw [List.getElem?_map, hk]; rfl)
    exact ⟨g, 0, hp, by rw [Nat.zero_add]; exact hc⟩
theorem xgcheck_any (s : ByteArray) (w : World) : Calls Tryz.prog 53 #[.string s] w fun e w' => e = .returned (.int .i64 (gnE s)) ∧ K0 w w' := by
  refine vc_xgcheck s w _ (bsp_intro (fun h => ?_) (fun h => ?_))
  · have : gnE s = 5 := by unfold gnE; rw [if_pos (by simp at h; omega)]
    rw [this]; exact ⟨rfl, .refl _ _⟩
  have h80 : ¬ 80 < s.size := by simp at h; omega
  have hle := partsD_le s.size s (Nat.le_refl _)
  unfold gnE
  rw [if_neg h80]
  refine ⟨(xparts_any s w (by omega)).mono fun e w1 ⟨⟨p, c, he, hR⟩, k1⟩ => ⟨_, _, _, he, .of_k0 k1, ?_⟩⟩
  generalize partsD s = l at *
  refine ⟨fun vs w' => ∃ i : Nat, vs = [.int .i64 (i : Int)] ∧ i ≤ l.length ∧ (∀ j z, j < i → l[j]? = some z → compB z = true) ∧ K0 w1 w',
    fun vs _ => (match vs with | .int _ x :: _ => l.length - x.toNat | _ => 0), ⟨0, rfl, by omega, (fun j z h => by omega), .refl _ _⟩, ?_⟩
  rintro x w2 ⟨i, hv, hi, hall, k2⟩
  simp only [List.cons.injEq, Value.int.injEq, true_and, and_true] at hv
  subst hv
  refine bsp_intro (fun hlt => ?_) (fun hge => ?_)
  · have hlt : i < l.length := by simp at hlt; omega
    obtain ⟨z, b, o, hz, hp, hc⟩ := str_get (hR.k0 k2) hlt
    rw [Int.toNat_natCast]
    refine nn_is hp ⟨⟨by omega, by omega⟩, z, hc, ⟨(xcomp_any z w2).mono fun e w3 ⟨he, k3⟩ => ⟨_, he, .of_k0 k3, bsp_intro (fun hb => ?_) (fun hb => ?_)⟩⟩⟩
    · have : l.any (fun x => !compB x) = true := List.any_eq_true.2 ⟨z, List.mem_of_getElem? hz, hb⟩
      rw [if_pos this]
      exact ⟨rfl, (k1.trans k2).trans k3⟩
    · have hb : compB z = true := by simpa using hb
      refine ⟨⟨i + 1, by rw [inc64 (by omega)], hlt, fun j y hj hy => ?_, k2.trans k3⟩, by rw [inc64 (by omega)]; simp only [Int.toNat_natCast]; omega⟩
      by_cases e : j = i
      · rw [e, hz] at hy; cases hy; exact hb
      · exact hall j y (by omega) hy
  · have hi : i = l.length := by simp at hge; omega
    subst hi
    have : ¬ l.any (fun x => !compB x) = true := fun h => by
      obtain ⟨z, hz, e⟩ := List.any_eq_true.1 h
      obtain ⟨j, hj, e2⟩ := List.getElem_of_mem hz
      rw [hall j z hj (by rw [List.getElem?_eq_getElem hj, e2])] at e
      cases e
    rw [if_neg this]
    refine bsp_intro (fun h => ?_) (fun h => ?_)
    · rw [if_pos (by simp at h; omega)]; exact ⟨rfl, k1.trans k2⟩
    · rw [if_neg (by simp at h; omega)]; exact ⟨rfl, k1.trans k2⟩

end Go.Proofs.YtfacflbmlfbeeaaGreatDoor

/- The formulas of functions by the symbolic evaluator, and that each gives the call's contract. Written by a program (gen.py). No condition. -/
namespace Go.Proofs.YtfacflbmlfbeeaaGreatDoor
set_option maxRecDepth 100000
set_option linter.unusedVariables false

def VC_acont (p : Option Addr) (n : Nat) (c : Nat) (a : Nat → Int) (w : World) (R : Ending → World → Prop) : Prop :=
 ∀ (n_1 : Nat) (W : World),
 Loc w.heap.size
 [Blk.mk n_1 45
 (arrI IntKind.u8 a 16 0)
 2]
 w W →
 CallsS Tryz.prog 132
 #[Value.slice p n c,
 Value.agg
 (arrI IntKind.u8 a 16 0).toArray]
 W fun (e : Ending) (w' : World) =>
 ∃ (x : Int),
 e = Ending.returned (Value.int IntKind.i64 x) ∧
 KeptL [n_1] W w' ∧ R (Ending.returned (Value.bool (decide (x ≥ 0)))) w'
theorem vc_acont (p : Option Addr) (n : Nat) (c : Nat) (a : Nat → Int) (w : World) (R : Ending → World → Prop) (h : VC_acont p n c a w R) : Calls Tryz.prog 107 ([Value.slice
    p n c,
  Value.agg (arrI IntKind.u8 a 16 0).toArray] : List Value).toArray w R := by
  have e : execR2 { P := Tryz.prog, loops := [], pur := pur1, tails := [], joins := [], boxes := [] } Tryz.f107.results.toList R (Tryz.f107.body.getD .skip) (initF [Value.slice
    p n c,
  Value.agg
    (arrI IntKind.u8 a 16
        0).toArray] (Tryz.f107.ntmps - ([Value.slice p n c,
  Value.agg (arrI IntKind.u8 a 16 0).toArray] : List Value).length)) w = VC_acont p n c a w R := by kernel_rfl
  have hb : Tryz.f107.body = some (Tryz.f107.body.getD .skip) := by kernel_rfl
  exact calls_of_exec2' (P := Tryz.prog) (fn := Tryz.f107) (c := Tryz.f107.body.getD .skip) (args := [Value.slice p n c,
  Value.agg (arrI IntKind.u8 a 16 0).toArray]) (w := w) (R := R) pur1_ok Tryz.func107 hb e h

def VC_aidx (p : Option Addr) (n : Nat) (c : Nat) (a : Nat → Int) (w : World) (R : Ending → World → Prop) : Prop :=
 ∀ (n_1 : Nat) (W : World),
 Loc w.heap.size
 [Blk.mk n_1 45
 (arrI IntKind.u8 a 16 0)
 2]
 w W →
 ∃ (I : List Value → World → Prop),
 ∃ (m : List Value → World → Nat),
 I [Value.int IntKind.i64 0] W ∧
 ∀ (x : Int) (w' : World),
 I [Value.int IntKind.i64 x] w' →
 Loc w.heap.size
 [Blk.mk n_1 45
 (arrI IntKind.u8 a 16 0)
 0]
 w' w' →
 bsp (decide (x < (↑n : Int)))
 (nn true p fun (b o : Nat) =>
 (0 ≤ x ∧ x < (↑n : Int)) ∧
 ∃ (f : Nat → Int),
 (∀ (W : World),
 Loc w.heap.size
 [Blk.mk n_1 45
 (arrI IntKind.u8 a 16 0)
 0]
 w' W →
 AtL W b (o + x.toNat * 16)
 (arrI IntKind.u8 f 16 0)) ∧
 ∃ (r : Bool),
 EqP Tryz.prog 45
 (Value.agg
 (arrI IntKind.u8 a 16 0).toArray)
 (Value.agg
 (arrI IntKind.u8 f 16 0).toArray)
 r ∧
 bsp r
 (∀ (W : World),
 Loc w.heap.size
 [Blk.mk n_1 45
 (arrI IntKind.u8 a 16 0)
 0]
 w' W →
 R (Ending.returned (Value.int IntKind.i64 x)) W)
 (∀ (W : World),
 Loc w.heap.size
 [Blk.mk n_1 45
 (arrI IntKind.u8 a 16 0)
 0]
 w' W →
 I [Value.int IntKind.i64 (IntKind.i64.wrap (x + 1))] W ∧
 m [Value.int IntKind.i64 (IntKind.i64.wrap (x + 1))] W < m [Value.int IntKind.i64 x] w'))
 (R (Ending.returned (Value.int IntKind.i64 (-1))) w')
theorem vc_aidx (p : Option Addr) (n : Nat) (c : Nat) (a : Nat → Int) (w : World) (R : Ending → World → Prop) (h : VC_aidx p n c a w R) : Calls Tryz.prog 132 ([Value.slice
    p n c,
  Value.agg (arrI IntKind.u8 a 16 0).toArray] : List Value).toArray w R := by
  have e : execR2 { P := Tryz.prog, loops := [(2, [(8, Ck.int IntKind.i64)])], pur := pur1, tails := [], joins := [], boxes := [] } Tryz.f132.results.toList R (Tryz.f132.body.getD .skip) (initF [Value.slice
    p n c,
  Value.agg
    (arrI IntKind.u8 a 16
        0).toArray] (Tryz.f132.ntmps - ([Value.slice p n c,
  Value.agg (arrI IntKind.u8 a 16 0).toArray] : List Value).length)) w = VC_aidx p n c a w R := by kernel_rfl
  have hb : Tryz.f132.body = some (Tryz.f132.body.getD .skip) := by kernel_rfl
  exact calls_of_exec2' (P := Tryz.prog) (fn := Tryz.f132) (c := Tryz.f132.body.getD .skip) (args := [Value.slice p n c,
  Value.agg (arrI IntKind.u8 a 16 0).toArray]) (w := w) (R := R) pur1_ok Tryz.func132 hb e h

def VC_aclone (p : Option Addr) (n : Nat) (c : Nat) (w : World) (R : Ending → World → Prop) : Prop :=
 bsp p.isNone (R (Ending.returned (Value.slice none 0 0)) w)
 (∀ (n_1 : Nat) (W : World),
 Loc w.heap.size [Blk.mk n_1 45 [] 2] w W →
 ∃ (base : Nat),
 ∃ (xs : List Value),
 ∃ (news : List Value),
 W.ownsRow base 45 16 (Value.slice (some (Addr.mk n_1 0 none)) 0 0) 0 xs ∧
 news.length = n * 16 ∧
 SrcP W p news ∧
 0 + n ≤ 9223372036854775807 ∧
 (0 + n) * 16 ≤ 140737488355328 ∧
 base ≤ W.heap.size ∧
 ∀ (p' : Option Addr) (c' : Nat) (w' : World),
 w'.ownsRow base 45 16 (Value.slice p' (0 + n) c') (0 + n) (xs ++ news) →
 W.grownBy w' (Value.slice (some (Addr.mk n_1 0 none)) 0 0).ownBlock →
 AppL W (some (Addr.mk n_1 0 none)) 0 0 n p' c' →
 KeptL [] W w' ∧ R (Ending.returned (Value.slice p' (0 + n) c')) w')
theorem vc_aclone (p : Option Addr) (n : Nat) (c : Nat) (w : World) (R : Ending → World → Prop) (h : VC_aclone p n c w R) : Calls Tryz.prog 47 ([Value.slice
    p n c] : List Value).toArray w R := by
  have e : execR2 { P := Tryz.prog, loops := [], pur := pur1, tails := [], joins := [], boxes := [] } Tryz.f47.results.toList R (Tryz.f47.body.getD .skip) (initF [Value.slice
    p n c] (Tryz.f47.ntmps - ([Value.slice p n c] : List Value).length)) w = VC_aclone p n c w R := by kernel_rfl
  have hb : Tryz.f47.body = some (Tryz.f47.body.getD .skip) := by kernel_rfl
  exact calls_of_exec2' (P := Tryz.prog) (fn := Tryz.f47) (c := Tryz.f47.body.getD .skip) (args := [Value.slice p n
    c]) (w := w) (R := R) pur1_ok Tryz.func47 hb e h

def VC_aequal (p : Option Addr) (n : Nat) (c : Nat) (p2 : Option Addr) (n2 : Nat) (c2 : Nat) (w : World) (R : Ending → World → Prop) : Prop :=
 bsp ((↑n : Int) != (↑n2 : Int)) (R (Ending.returned (Value.bool false)) w)
 (∃ (I : List Value → World → Prop),
 ∃ (m : List Value → World → Nat),
 I [Value.int IntKind.i64 0] w ∧
 ∀ (x : Int) (w' : World),
 I [Value.int IntKind.i64 x] w' →
 bsp (decide (x < (↑n : Int)))
 (nn true p fun (b o : Nat) =>
 (0 ≤ x ∧ x < (↑n : Int)) ∧
 ∃ (f : Nat → Int),
 (∀ (W : World),
 Loc w.heap.size [] w' W →
 AtL W b (o + x.toNat * 16)
 (arrI IntKind.u8 f 16 0)) ∧
 nn true p2 fun (b o : Nat) =>
 (0 ≤ x ∧ x < (↑n2 : Int)) ∧
 ∃ (f_1 : Nat → Int),
 (∀ (W : World),
 Loc w.heap.size [] w' W →
 AtL W b (o + x.toNat * 16)
 (arrI IntKind.u8 f_1 16 0)) ∧
 ∃ (r : Bool),
 EqP Tryz.prog 45
 (Value.agg
 (arrI IntKind.u8 f 16 0).toArray)
 (Value.agg
 (arrI IntKind.u8 f_1 16 0).toArray)
 r ∧
 bsp (!r) (∀ (W : World), Loc w.heap.size [] w' W → R (Ending.returned (Value.bool false)) W)
 (∀ (W : World),
 Loc w.heap.size [] w' W →
 I [Value.int IntKind.i64 (IntKind.i64.wrap (x + 1))] W ∧
 m [Value.int IntKind.i64 (IntKind.i64.wrap (x + 1))] W < m [Value.int IntKind.i64 x] w'))
 (R (Ending.returned (Value.bool true)) w'))
theorem vc_aequal (p : Option Addr) (n : Nat) (c : Nat) (p2 : Option Addr) (n2 : Nat) (c2 : Nat) (w : World) (R : Ending → World → Prop) (h : VC_aequal p n c p2 n2 c2 w R) : Calls Tryz.prog 51 ([Value.slice
    p n c,
  Value.slice p2 n2 c2] : List Value).toArray w R := by
  have e : execR2 { P := Tryz.prog, loops := [(4, [(13, Ck.int IntKind.i64)])], pur := pur1, tails := [], joins := [], boxes := [] } Tryz.f51.results.toList R (Tryz.f51.body.getD .skip) (initF [Value.slice
    p n c,
  Value.slice p2 n2
    c2] (Tryz.f51.ntmps - ([Value.slice p n c,
  Value.slice p2 n2 c2] : List Value).length)) w = VC_aequal p n c p2 n2 c2 w R := by kernel_rfl
  have hb : Tryz.f51.body = some (Tryz.f51.body.getD .skip) := by kernel_rfl
  exact calls_of_exec2' (P := Tryz.prog) (fn := Tryz.f51) (c := Tryz.f51.body.getD .skip) (args := [Value.slice p n c,
  Value.slice p2 n2 c2]) (w := w) (R := R) pur1_ok Tryz.func51 hb e h

end Go.Proofs.YtfacflbmlfbeeaaGreatDoor

/- Chapter 21: the contracts of rows of authors, of Definition.Check, clone, Equal. Bytes are bytes; the library's variable MaxLen holds a number. -/
namespace Go.Proofs.YtfacflbmlfbeeaaGreatDoor
open Go.RowKit

def BY (f : Nat → Int) : Prop := ∀ j : Nat, 0 ≤ f j ∧ f j ≤ 255
structure Df.OK (d : Df) : Prop where
  id : BY d.id
  au : BY d.au
  ms : ∀ m ∈ d.ms, BY m
theorem str_eq {a b : ByteArray} (h : a.toList = b.toList) : a = b := by
  rw [ByteArray.toList_eq, ByteArray.toList_eq] at h
  exact ByteArray.ext (Array.toList_inj.1 h)
theorem str_beq (a b : ByteArray) : (a.toList == b.toList) = decide (a = b) := by
  rw [Bool.eq_iff_iff]
  simp only [beq_iff_eq, decide_eq_true_eq]
  exact ⟨str_eq, fun h => by rw [h]⟩
theorem auI_len (f : Nat → Int) : (auI f).length = 16 := by simp [auI]
theorem auI_bd {f : Nat → Int} (h : BY f) : ∀ x ∈ auI f, 0 ≤ x ∧ x ≤ 255 := fun x hx => by
  obtain ⟨j, _, rfl⟩ := List.mem_map.1 hx
  exact h j
theorem auEq {f g : Nat → Int} (hf : BY f) (hg : BY g) : EqP Tryz.prog 45 (.agg (arrI .u8 f 16 0).toArray) (.agg (arrI .u8 g 16 0).toArray) (decide (auI f = auI g)) :=
  eq_bytes Tryz.underlying45 Tryz.underlying5 (by kernel_rfl) (by kernel_rfl) (by kernel_rfl) (by decide +kernel) (by kernel_rfl) (by kernel_rfl) (auI_len f) (auI_bd hf) (auI_len g) (auI_bd hg)
theorem idEqF {f g : Nat → Int} (hf : BY f) (hg : BY g) : EqP Tryz.prog 32 (.agg (arrI .u8 f 32 0).toArray) (.agg (arrI .u8 g 32 0).toArray) (decide (idI f = idI g)) :=
  idEq (idI_len f) (idI_bd hf) (idI_len g) (idI_bd hg)
theorem RowA.take {α : Type} {f : α → List Value} {L : Nat} {w : World} {p : Option Addr} {l : List α} (h : RowA f L w p l) (m : Nat) : RowA f L w p (l.take m) := fun k y hy => by
  rw [List.getElem?_take] at hy
  split at hy
  · exact h k y hy
  · cases hy
theorem src_rowA {α : Type} {f : α → List Value} {L : Nat} {w : World} {p : Option Addr} {l : List α} (h : RowA f L w p l) (hl : ∀ y, (f y).length = L) (h1 : ∀ y, ∀ u ∈ f y, u.oneCell' = true) (h0 : 0 < L) : SrcP w p (l.flatMap f) := by
  refine ⟨fun j u hj => ?_, fun u hu => by obtain ⟨z, _, hz⟩ := List.mem_flatMap.1 hu; exact h1 z u hz⟩
  have hlt := (List.getElem?_eq_some_iff.1 hj).1
  rw [len_flat f L l (fun y _ => hl y)] at hlt
  have hdiv : j / L < l.length := Nat.div_lt_of_lt_mul (by rw [Nat.mul_comm]; exact hlt)
  have hj2 : j / L * L + j % L = j := by rw [Nat.mul_comm]; exact Nat.div_add_mod j L
  obtain ⟨y, b, o, hy, hp, hat⟩ := h.get hdiv
  have h1 := flat_get f L l (j / L) y (j % L) (fun y _ => hl y) hy (Nat.mod_lt _ h0)
  rw [hj2, hj] at h1
  refine ⟨b, o, hp, ?_⟩
  have := hat.cell h1.symm
  rwa [Nat.add_assoc, hj2] at this
theorem arr_one (f : Nat → Int) (n : Nat) : ∀ u ∈ arrI .u8 f n 0, u.oneCell' = true := fun u hu => by
  obtain ⟨j, hj, e⟩ := List.getElem_of_mem hu
  have hl : ∀ (n i : Nat), (arrI .u8 f n i).length = n := fun n => by
    induction n with
    | zero => intro i; rfl
    | succ n ih => intro i; simp [arrI, ih]
  have hj' : j < n := by rw [hl] at hj; exact hj
  have := arrI_get .u8 f n 0 j hj'
  rw [List.getElem?_eq_getElem hj] at this
  simp at this
  rw [← e, this]; rfl
theorem rowA_none {α : Type} {f : α → List Value} {L : Nat} {w : World} {l : List α} (h : RowA f L w none l) : l = [] := by
  cases l with
  | nil => rfl
  | cons x r => obtain ⟨_, _, h, _⟩ := h 0 x rfl; cases h

/-! ### Rows of authors -/
theorem aidx_any (l : List (Nat → Int)) (p : Option Addr) (c : Nat) (a : Nat → Int) (w : World) (hR : RowA auC 16 w p l) (hm : ∀ m ∈ l, BY m) (ha : BY a) (hl : l.length ≤ 4611686018427387904) :
    Calls Tryz.prog 132 #[.slice p l.length c, .agg (arrI .u8 a 16 0).toArray] w fun e w' => (∃ x : Int, e = .returned (.int .i64 x) ∧ decide (x ≥ 0) = decide (auI a ∈ l.map auI)) ∧ K0 w w' := by
  refine vc_aidx p l.length c a w _ (fun n1 W hW => ?_)
  have kW : K0 w W := hW.kk rfl
  refine ⟨fun vs w' => ∃ i : Nat, vs = [.int .i64 (i : Int)] ∧ i ≤ l.length ∧ (∀ (j : Nat) (z : Nat → Int), j < i → l[j]? = some z → auI a ≠ auI z) ∧ K0 w w',
    fun vs _ => (match vs with | .int _ x :: _ => l.length - x.toNat | _ => 0), ⟨0, rfl, by omega, (fun j z h => by omega), kW⟩, ?_⟩
  rintro x w1 ⟨i, hv, hi, hall, k1⟩ _
  simp only [List.cons.injEq, Value.int.injEq, true_and, and_true] at hv
  subst hv
  refine bsp_intro (fun hlt => ?_) (fun hge => ?_)
  · have hlt : i < l.length := by simp at hlt; omega
    obtain ⟨z, b, o, hz, hp, hat⟩ := (hR.k0 k1).get hlt
    rw [Int.toNat_natCast]
    refine nn_is hp ⟨⟨by omega, by omega⟩, z, fun W hW => hat.k0 (hW.kk rfl), _, auEq ha (hm z (List.mem_of_getElem? hz)), bsp_intro (fun h => fun W hW => ?_) (fun h => fun W hW => ?_)⟩
    · have h : auI a = auI z := of_decide_eq_true h
      have : auI a ∈ l.map auI := List.mem_map.2 ⟨z, List.mem_of_getElem? hz, h.symm⟩
      exact ⟨⟨i, rfl, by rw [decide_eq_true this]; simp⟩, k1.trans (hW.kk rfl)⟩
    · have h : ¬ auI a = auI z := of_decide_eq_false h
      refine ⟨⟨i + 1, by rw [inc64 (by omega)], hlt, fun j y hj hy => ?_, k1.trans (hW.kk rfl)⟩, by rw [inc64 (by omega)]; simp only [Int.toNat_natCast]; omega⟩
      by_cases e : j = i
      · rw [e, hz] at hy; cases hy; exact h
      · exact hall j y (by omega) hy
  · have hi : i = l.length := by simp at hge; omega
    subst hi
    have : ¬ auI a ∈ l.map auI := fun hm => by
      obtain ⟨z, hz, e⟩ := List.mem_map.1 hm
      obtain ⟨j, hj, e2⟩ := List.getElem_of_mem hz
      exact hall j z hj (by rw [List.getElem?_eq_getElem hj, e2]) e.symm
    exact ⟨⟨-1, rfl, by rw [decide_eq_false this]; rfl⟩, k1⟩
theorem acont_any (l : List (Nat → Int)) (p : Option Addr) (c : Nat) (a : Nat → Int) (w : World) (hR : RowA auC 16 w p l) (hm : ∀ m ∈ l, BY m) (ha : BY a) (hl : l.length ≤ 4611686018427387904) :
    Calls Tryz.prog 107 #[.slice p l.length c, .agg (arrI .u8 a 16 0).toArray] w fun e w' => e = .returned (.bool (decide (auI a ∈ l.map auI))) ∧ K0 w w' := by
  refine vc_acont p l.length c a w _ (fun n1 W hW => ?_)
  have kW : K0 w W := hW.kk rfl
  exact ⟨(aidx_any l p c a W (hR.k0 kW) hm ha hl).mono fun e w1 ⟨⟨x, he, hx⟩, k1⟩ => ⟨_, he, .of_k0 k1, by rw [hx], kW.trans k1⟩⟩
theorem aclone_any (l : List (Nat → Int)) (p : Option Addr) (c : Nat) (w : World) (hR : RowA auC 16 w p l) (hl : l.length * 16 ≤ 140737488355328) :
    Calls Tryz.prog 47 #[.slice p l.length c] w fun e w' => (∃ (p' : Option Addr) (c' : Nat), e = .returned (.slice p' l.length c') ∧ w'.ownsRow w.heap.size 45 16 (.slice p' l.length c') l.length (l.flatMap auC)) ∧ K0 w w' := by
  refine vc_aclone p l.length c w _ (bsp_intro (fun h => ?_) (fun h => fun n1 W hW => ?_))
  · obtain rfl : p = none := by simpa using h
    have := rowA_none hR
    subst this
    exact ⟨⟨none, 0, rfl, World.ownsRow_nil _ _ _ _⟩, .refl _ _⟩
  have kW : K0 w W := hW.kk rfl
  have g1 : w.heap.size ≤ n1 := hW.fresh 0 rfl rfl
  have h0 := hW.cells 0 rfl
  refine ⟨w.heap.size, [], l.flatMap auC, own_none g1 h0, by rw [len_flat auC 16 l (fun y _ => auC_length y)], src_rowA (hR.k0 kW) auC_length (fun y => arr_one y 16) (by decide), by omega, by omega, kW.size, fun p' c' w' ho hg _ => ?_⟩
  rw [Nat.zero_add] at ho
  rw [Nat.zero_add]
  refine ⟨⟨(kp_grown hg).size, fun _ hx => by cases hx⟩, ⟨p', c', rfl, by simpa using ho⟩, kW.fresh (kp_grown hg) (fun j hj e => by simp only [Value.ownBlock, Option.some.injEq] at e; omega)⟩
theorem aequal_any (a b : List (Nat → Int)) (p : Option Addr) (c : Nat) (q : Option Addr) (d : Nat) (w : World) (hp : RowA auC 16 w p a) (hq : RowA auC 16 w q b) (ha : ∀ m ∈ a, BY m) (hb : ∀ m ∈ b, BY m) (hl : a.length ≤ 1099511627776) :
    Calls Tryz.prog 51 #[.slice p a.length c, .slice q b.length d] w fun e w' => e = .returned (.bool (decide (a.map auI = b.map auI))) ∧ K0 w w' := by
  refine vc_aequal p a.length c q b.length d w _ (bsp_intro (fun h => ?_) (fun h => ?_))
  · have : ¬ a.map auI = b.map auI := fun e => by
      have := congrArg List.length e
      simp only [List.length_map] at this
      rw [this] at h; simp at h
    rw [decide_eq_false this]; exact ⟨rfl, .refl _ _⟩
  have hn : a.length = b.length := by simp at h; omega
  refine ⟨fun vs w' => ∃ i : Nat, vs = [.int .i64 (i : Int)] ∧ i ≤ a.length ∧ (a.take i).map auI = (b.take i).map auI ∧ K0 w w',
    fun vs _ => (match vs with | .int _ x :: _ => a.length - x.toNat | _ => 0), ⟨0, rfl, by omega, by simp, .refl _ _⟩, ?_⟩
  rintro x w1 ⟨i, hv, hi, ht, k1⟩
  simp only [List.cons.injEq, Value.int.injEq, true_and, and_true] at hv
  subst hv
  refine bsp_intro (fun hlt => ?_) (fun hge => ?_)
  · have hlt : i < a.length := by simp at hlt; omega
    obtain ⟨z, b1, o1, hz, hp1, hc1⟩ := (hp.k0 k1).get hlt
    obtain ⟨y, b2, o2, hy, hp2, hc2⟩ := (hq.k0 k1).get (k := i) (by omega)
    rw [Int.toNat_natCast]
    refine nn_is hp1 ⟨⟨by omega, by omega⟩, z, fun W hW => hc1.k0 (hW.kk rfl), nn_is hp2 ⟨⟨by omega, by omega⟩, y, fun W hW => hc2.k0 (hW.kk rfl), _, auEq (ha z (List.mem_of_getElem? hz)) (hb y (List.mem_of_getElem? hy)), bsp_intro (fun hne => fun W hW => ?_) (fun heq => fun W hW => ?_)⟩⟩
    · have hne : ¬ auI z = auI y := by simpa using hne
      have : ¬ a.map auI = b.map auI := fun e => by
        have := congrArg (·[i]?) e
        simp only [List.getElem?_map, hz, hy, Option.map_some, Option.some.injEq] at this
        exact hne this
      rw [decide_eq_false this]; exact ⟨rfl, k1.trans (hW.kk rfl)⟩
    · have e : auI z = auI y := by simpa using heq
      refine ⟨⟨i + 1, by rw [inc64 (by omega)], hlt, ?_, k1.trans (hW.kk rfl)⟩, by rw [inc64 (by omega)]; simp only [Int.toNat_natCast]; omega⟩
      rw [take_snoc hz, take_snoc hy, List.map_append, List.map_append, ht]
      simp [e]
  · have hi : i = a.length := by simp at hge; omega
    subst hi
    rw [List.take_length, List.take_of_length_le (by omega)] at ht
    rw [decide_eq_true ht]; exact ⟨rfl, k1⟩


end Go.Proofs.YtfacflbmlfbeeaaGreatDoor

/- delete of a map's entry, clear of a row's end, slices that are shorter. Generic: no program, no condition. -/
namespace Go.Proofs.YtfacflbmlfbeeaaGreatDoor
open Go.RowKit Go.Maps

theorem map_erase {α β : Type} (f : α → β) : ∀ (l : List α) (i : Nat), (l.eraseIdx i).map f = (l.map f).eraseIdx i
  | [], _ => rfl
  | _ :: _, 0 => rfl
  | x :: l, i + 1 => by simp [map_erase f l i]
section
variable {α : Type} {P : Program} {k t e : TypeId} {enc : α → Value} {w w1 : World} {b : Nat} {l : List (α × Value)}
variable [DecidableEq α]
theorem adel_none {β : Type} {l : List (α × β)} {a : α} (h : ∀ p ∈ l, p.1 ≠ a) : adel l a = l := List.filter_eq_self.2 fun p hp => by simp [h p hp]
theorem adel_at {β : Type} : ∀ {l : List (α × β)} {a : α} {v : β} {j : Nat}, (l.Pairwise fun p q => p.1 ≠ q.1) → l[j]? = some (a, v) → adel l a = l.eraseIdx j
  | [], a, v, j, _, h => by simp at h
  | (x, u) :: l, a, v, 0, hd, h => by
    simp at h
    obtain ⟨rfl, rfl⟩ := h
    have := adel_none (fun p hp => fun e => (List.pairwise_cons.1 hd).1 p hp e.symm)
    unfold adel at this ⊢
    rw [List.filter_cons, if_neg (by simp), this]; rfl
  | (x, u) :: l, a, v, j + 1, hd, h => by
    have h' : l[j]? = some (a, v) := by simpa using h
    have hne : x ≠ a := (List.pairwise_cons.1 hd).1 (a, v) (List.mem_of_getElem? h')
    have ih := adel_at (List.pairwise_cons.1 hd).2 h'
    unfold adel at ih ⊢
    rw [List.filter_cons, if_pos (by simp [hne]), ih]; rfl
theorem aget_adel {β : Type} (l : List (α × β)) (a c : α) : aget (adel l a) c = if a = c then none else aget l c := by
  induction l with
  | nil => simp [adel, aget]
  | cons p r ih =>
    obtain ⟨x, u⟩ := p
    unfold adel at ih ⊢
    rw [List.filter_cons]
    by_cases h : x = a
    · subst h
      rw [if_neg (by simp), ih]
      by_cases h2 : x = c
      · rw [if_pos h2, if_pos h2]
      · rw [if_neg h2, if_neg h2]; simp [aget, h2]
    · rw [if_pos (by simp [h])]
      unfold aget
      by_cases h2 : x = c
      · subst h2; simp [Ne.symm h]
      · simp only [h2, if_false]; exact ih
variable (hinj : ∀ x y, enc x = enc y → x = y)
include hinj
/-- An entry of a map is struck. -/
theorem MapB.del (h : MapB P k enc w b l) (K : Keyed P k) (ht : P.underlying t = some (.map k e)) {a : α} {kl : Lit} (ha : keyOf P k (enc a) = some kl) :
    ∃ w1, BltP P .delete [t, k] [.map (some b), enc a] w w1 ∧ MapB P k enc w1 b (adel l a) ∧ Kp (· = b) w w1 := by
  obtain ⟨es, c, hb, he⟩ := h.blk
  have hkp : ∀ o, Kp (· = b) w (ChangeMaps.setBlock w b o) := fun o => ⟨rfl, rfl, rfl, by simp [ChangeMaps.setBlock], fun i _ hi => ChangeMaps.heap_setBlock_other hb _ (fun e => hi (by rw [e]))⟩
  have hkeys : ∀ p ∈ adel l a, ∃ kl, keyOf P k (enc p.1) = some kl := fun p hp => h.key p (List.mem_filter.1 hp).1
  have hdis : (adel l a).Pairwise fun p q => p.1 ≠ q.1 := List.Pairwise.sublist List.filter_sublist h.dis
  rcases map_find hinj K he h.key h.dis ha (w := w) with ⟨h1, h2⟩ | ⟨j, x, u, h1, h2, h3, h4, h5⟩
  · refine ⟨ChangeMaps.setBlock w b (.map es c), ⟨fun ty cs => ?_⟩, ⟨⟨_, _, ChangeMaps.heap_setBlock_same hb _, ?_⟩, hkeys, hdis, fun es' c' h' => by rw [ChangeMaps.heap_setBlock_same hb] at h'; cases h'; exact h.brn es c hb⟩, hkp _⟩
    · simp [builtin, Builtin.delete_, run_underlying ht, MapKept.run_getObj_map hb, K.check w _ ha, h2, MapKept.run_setObj_map _ hb, Result.andThen, ChangeMaps.setBlock]
    · rw [adel_none (aget_none.1 h1), he]
  · refine ⟨ChangeMaps.setBlock w b (.map (es.eraseIdxIfInBounds j) c), ⟨fun ty cs => ?_⟩, ⟨⟨_, _, ChangeMaps.heap_setBlock_same hb _, ?_⟩, hkeys, hdis, fun es' c' h' => by
      rw [ChangeMaps.heap_setBlock_same hb] at h'
      cases h'
      have h6 := h.brn es c hb
      have hs : List.Sublist (es.eraseIdxIfInBounds j).toList es.toList := by rw [Array.toList_eraseIdxIfInBounds]; exact List.eraseIdx_sublist _ _
      exact ⟨h6.1.sublist (hs.map _), fun x hx => h6.2 x (hs.subset hx)⟩⟩, hkp _⟩
    · simp [builtin, Builtin.delete_, run_underlying ht, MapKept.run_getObj_map hb, K.check w _ ha, h2, MapKept.run_setObj_map _ hb, Result.andThen, ChangeMaps.setBlock]
    · rw [adel_at h.dis h3]
      rw [map_erase, ← he, ← map_erase]
      simp
end

/-! ### The end of a row is cleared -/
theorem putL_len : ∀ (vs c : List Value) (o : Nat), (putL c o vs).length = c.length
  | [], c, o => rfl
  | v :: r, c, o => by simp only [putL]; rw [putL_len r]; simp
theorem oneB_all : ∀ l : List Value, (∀ v ∈ l, v.oneCell' = true) → oneB l = true
  | [], _ => rfl
  | v :: r, h => by
    have h1 := h v (by simp)
    have h2 := oneB_all r (fun u hu => h u (by simp [hu]))
    cases v <;> first | exact h2 | (simp [Value.oneCell'] at h1)
theorem zeroCells_mem {z : Array Value} {n : Nat} {v : Value} (h : v ∈ (Builtin.zeroCells z n).toList) : v ∈ z.toList := by
  unfold Builtin.zeroCells at h
  rw [Array.toList_map, List.mem_map] at h
  obtain ⟨i, hi, rfl⟩ := h
  have hi : i < n * z.size := by simpa using hi
  have hz : 0 < z.size := by
    rcases Nat.eq_zero_or_pos z.size with h0 | h0
    · rw [h0] at hi; omega
    · exact h0
  have : i % z.size < z.size := Nat.mod_lt _ hz
  rw [getElem!_pos z _ this]
  simp
theorem zeroCells_len {z : Array Value} {n : Nat} : (Builtin.zeroCells z n).toList.length = n * z.size := by simp [Builtin.zeroCells]
theorem clear_row {P : Program} {w : World} {t e T : TypeId} (ht : P.underlying t = some (.slice e)) {z : Value} (hz : ∀ w, (zeroValue e).run P w = .ok z w) {b o m c : Nat} {cells : Array Value} (hb : w.heap[b]? = some (.cells cells T (0, 0)))
    (hm : 0 < m) (hl : o + m * z.cells.size ≤ cells.size) (h1 : ∀ v ∈ z.cells.toList, v.oneCell' = true) :
    ∃ w1, BltP P .clear [t] [.slice (some ⟨b, o, none⟩) m c] w w1 ∧ Kp (· = b) w w1 ∧ w1.heap[b]? = some (.cells (putL cells.toList o (Builtin.zeroCells z.cells m).toList).toArray T (0, 0)) := by
  have hst := run_storeCells_w (P := P) (b := b) (o := o) (Builtin.zeroCells z.cells m).toList 0 w (oneB_all _ fun v hv => h1 v (zeroCells_mem hv)) (fun j hj => by
    rw [zeroCells_len] at hj
    exact cell_wr hb (by omega))
  refine ⟨wset w b o (Builtin.zeroCells z.cells m).toList, ⟨fun ty cs => ?_⟩, wset_kp _ _ _, wset_block _ _ _ _ hb⟩
  obtain ⟨m, rfl⟩ : ∃ k, m = k + 1 := ⟨m - 1, by omega⟩
  rw [Nat.add_zero] at hst
  simp [builtin, Builtin.clear_, run_underlying ht, hz, hst, Result.andThen]
end Go.Proofs.YtfacflbmlfbeeaaGreatDoor

/- Ranges over maps: an iterator's block, what is left, a step. Generic: no program, no condition. -/
namespace Go.Proofs.YtfacflbmlfbeeaaGreatDoor
open Go.RowKit Go.Maps

/-- How many entries are left. -/
def leftN (w : World) (r b : Nat) : Nat := match w.heap[r]?, w.heap[b]? with
  | some (.mapIter _ _ seen _), some (.map es _) => (leftOf es seen).size
  | _, _ => 0
/-- Block r holds an iterator over the map in block b; todo is left. -/
structure RngB {α : Type} (enc : α → Value) (w : World) (r b : Nat) (todo : List (α × Value)) : Prop where
  h : ∃ es clock since c0 seen, w.heap[b]? = some (.map es clock) ∧ w.heap[r]? = some (.mapIter (some b) since seen c0) ∧ (∀ x ∈ es.toList, x.born < since) ∧ since ≤ c0 ∧ since ≤ clock ∧ (es.toList.map (·.born)).Nodup ∧
    (leftOf es seen).toList.map (fun e => (e.key, e.val)) = todo.map (fun p => (enc p.1, p.2))
section
variable {α : Type} {P : Program} {k t e : TypeId} {enc : α → Value} {w w1 : World} {r b : Nat} {l todo : List (α × Value)}
theorem RngB.kp {M : Nat → Prop} {w' : World} (h : RngB enc w r b todo) (hk : Kp M w w') (hr : ¬ M r) (hb : ¬ M b) : RngB enc w' r b todo := by
  obtain ⟨es, cl, si, c0, se, h1, h2, h3⟩ := h.h
  exact ⟨es, cl, si, c0, se, hk.blk h1 hb, hk.blk h2 hr, h3⟩
theorem RngB.left (h : RngB enc w r b todo) : leftN w r b = todo.length := by
  obtain ⟨es, cl, si, c0, se, h1, h2, h3, h4, h5, h6, h7⟩ := h.h
  unfold leftN
  rw [h1, h2]
  have := congrArg List.length h7
  simpa using this
theorem MapB.range (h : MapB P k enc w b l) (ht : P.underlying t = some (.map k e)) : ∃ n w1, RngP P t (.map (some b)) n w w1 ∧ RngB enc w1 n b l ∧ K0 w w1 ∧ w.heap.size ≤ n ∧ n < w1.heap.size := by
  obtain ⟨es, c, hb, he⟩ := h.blk
  obtain ⟨h1, h2⟩ := h.brn es c hb
  have hk : K0 w (w.alloc (.mapIter (some b) c #[] c)) := ⟨rfl, rfl, rfl, by simp, fun i hi _ => Below.heap_alloc _ _ _ hi⟩
  refine ⟨w.heap.size, w.alloc (.mapIter (some b) c #[] c), ⟨run_range_map w t k e b es c ht hb⟩, ⟨es, c, c, c, #[], hk.blk hb (fun h => h), heap_alloc_new _ _, h2, Nat.le_refl _, Nat.le_refl _, h1, ?_⟩, hk, Nat.le_refl _, by simp⟩
  rw [← he]
  unfold leftOf
  rw [Array.filter_eq_self.2 (fun x _ => by simp)]
theorem left_erase {L : List MapEntry} (hn : (L.map (·.born)).Nodup) {j : Nat} {x : MapEntry} (hj : L[j]? = some x) : L.filter (fun y => !(y.born == x.born)) = L.eraseIdx j := by
  induction L generalizing j with
  | nil => simp at hj
  | cons y r ih =>
    have hn' : y.born ∉ r.map (·.born) ∧ (r.map (·.born)).Nodup := List.nodup_cons.1 hn
    cases j with
    | zero =>
      have e : y = x := by simpa using hj
      subst e
      rw [List.filter_cons, if_neg (by simp), List.eraseIdx_cons_zero]
      refine List.filter_eq_self.2 fun z hz => ?_
      have : z.born ≠ y.born := fun e => hn'.1 (by rw [← e]; exact List.mem_map.2 ⟨z, hz, rfl⟩)
      simpa using this
    | succ j =>
      have hj' : r[j]? = some x := by simpa using hj
      have : y.born ≠ x.born := fun e => hn'.1 (by rw [e]; exact List.mem_map.2 ⟨x, List.mem_of_getElem? hj', rfl⟩)
      rw [List.filter_cons, if_pos (by simpa using this), List.eraseIdx_cons_succ, ih hn'.2 hj']
theorem map_erase' {β γ : Type} (f : β → γ) : ∀ (L : List β) (j : Nat), (L.eraseIdx j).map f = (L.map f).eraseIdx j
  | [], _ => by simp
  | _ :: _, 0 => rfl
  | x :: L, j + 1 => by simp [List.eraseIdx_cons_succ, map_erase' f L j]
theorem sb_same {w : World} {r : Nat} {x : Obj} (h : w.heap[r]? = some x) (o : Obj) : (ChangeMaps.setBlock w r o).heap[r]? = some o := by
  have hlt : r < w.heap.size := by
    rcases Nat.lt_or_ge r w.heap.size with h' | h'
    · exact h'
    · rw [Array.getElem?_eq_none h'] at h; cases h
  simp [ChangeMaps.setBlock, hlt]
theorem sb_other (w : World) (r : Nat) (o : Obj) {i : Nat} (h : i ≠ r) : (ChangeMaps.setBlock w r o).heap[i]? = w.heap[i]? := by
  simp [ChangeMaps.setBlock, Ne.symm h]
/-- A step. -/
theorem RngB.next (h : RngB enc w r b todo) :
    (todo = [] ∧ NxtP P (.pointer (some ⟨r, 0, none⟩)) false [] w w) ∨
    ∃ (j : Nat) (p : α × Value) (w1 : World), todo[j]? = some p ∧ NxtP P (.pointer (some ⟨r, 0, none⟩)) true [enc p.1, p.2] w w1 ∧ EntP P (.pointer (some ⟨r, 0, none⟩)) (.tuple #[enc p.1, p.2]) w1 ∧ RngB enc w1 r b (todo.eraseIdx j) ∧ Kp (· = r) w w1 := by
  obtain ⟨es, cl, si, c0, se, h1, h2, h3, h4, h5, h6, h7⟩ := h.h
  have hlen := congrArg List.length h7
  simp only [List.length_map] at hlen
  rcases run_next_at (P := P) w 0 r b si c0 se es cl h2 h1 h3 h4 with ⟨h8, _⟩ | ⟨x, hx, w1, hw1, hrun⟩
  · refine .inl ⟨List.eq_nil_of_length_eq_zero (by rw [← hlen]; simpa using h8), ⟨fun ty => ?_⟩⟩
    rcases run_next_at (P := P) w ty r b si c0 se es cl h2 h1 h3 h4 with ⟨_, h9⟩ | ⟨x, hx, _⟩
    · exact h9
    · have : leftOf es se = #[] := Array.eq_empty_of_size_eq_zero h8
      rw [this] at hx; simp at hx
  · obtain ⟨j, hj, hjx⟩ := List.getElem_of_mem hx
    have hjx' : (leftOf es se).toList[j]? = some x := by rw [List.getElem?_eq_getElem hj, hjx]
    have hp : (todo.map (fun p => (enc p.1, p.2)))[j]? = some (x.key, x.val) := by rw [← h7, List.getElem?_map, hjx']; rfl
    rw [List.getElem?_map, Option.map_eq_some_iff] at hp
    obtain ⟨p, hp, hpe⟩ := hp
    simp only [Prod.mk.injEq] at hpe
    have hkw : Kp (· = r) w (ChangeMaps.setBlock w1 r (.mapIter (some b) si (se.push x.born) cl)) := by
      have hw : Kp (· = r) w w1 := by
        rcases hw1 with rfl | rfl
        · exact .refl _ _
        · exact ⟨rfl, rfl, rfl, Nat.le_refl _, fun _ _ _ => rfl⟩
      have hr1 : w1.heap[r]? = some (.mapIter (some b) si se c0) := by rcases hw1 with rfl | rfl <;> exact h2
      exact hw.trans ⟨rfl, rfl, rfl, by simp [ChangeMaps.setBlock], fun i _ hi => sb_other _ _ _ hi⟩
    have hrb : b ≠ r := fun e => by rw [e, h2] at h1; cases h1
    have hr1 : w1.heap[r]? = some (.mapIter (some b) si se c0) := by rcases hw1 with rfl | rfl <;> exact h2
    have hb1 := hkw.blk h1 hrb
    have hr2 : (ChangeMaps.setBlock w1 r (.mapIter (some b) si (se.push x.born) cl)).heap[r]? = some (.mapIter (some b) si (se.push x.born) cl) := sb_same hr1 _
    refine .inr ⟨j, p, _, hp, ⟨fun ty => ?_⟩, ⟨?_⟩, ⟨es, cl, si, cl, se.push x.born, hb1, hr2, h3, h5, h5, h6, ?_⟩, hkw⟩
    · rw [hpe.1, hpe.2]; exact hrun
    · rw [hpe.1, hpe.2]; exact run_entry_at _ r b si se es cl x hr2 hb1 (mem_left hx).1 h6
    · rw [map_erase', ← h7, ← map_erase']
      congr 1
      have hL : ((leftOf es se).toList.map (·.born)).Nodup := by
        unfold leftOf
        rw [Array.toList_filter]
        exact h6.sublist (List.filter_sublist.map _)
      rw [← left_erase hL hjx']
      unfold leftOf
      rw [Array.toList_filter, Array.toList_filter, List.filter_filter]
      refine List.filter_congr fun y _ => ?_
      rw [contains_push]
      cases se.contains y.born <;> simp
end

end Go.Proofs.YtfacflbmlfbeeaaGreatDoor

/- Chapter 39: keys of maps, submissions compared by ==, a queue in the memory. Numbers and texts that are not too long. -/
namespace Go.Proofs.YtfacflbmlfbeeaaGreatDoor
open Go.RowKit Go.Maps

/-- Beyond its n bytes a function is zero. -/
def NZ (n : Nat) (f : Nat → Int) : Prop := ∀ j, n ≤ j → f j = 0
theorem nz_eq {n : Nat} {f g : Nat → Int} (hf : NZ n f) (hg : NZ n g) (h : (List.range n).map f = (List.range n).map g) : f = g := by
  funext j
  rcases Nat.lt_or_ge j n with hj | hj
  · have := congrArg (fun z => z[j]?) h
    simpa [hj] using this
  · rw [hf j hj, hg j hj]
/-- Numbers that can be written. -/
def I64 (x : Int) : Prop := -9223372036854775808 ≤ x ∧ x ≤ 9223372036854775807
structure Sb.OK (x : Sb) : Prop where
  id : BY x.id
  idz : NZ 32 x.id
  mo : BY x.mo
  moz : NZ 16 x.mo
  g : x.g.size ≤ 1073741824
  tx : x.tx.size ≤ 1073741824
  rs : x.rs.size ≤ 1073741824
  r : I64 x.r
  st : I64 x.st
  de : I64 x.de
structure En.OK (x : En) : Prop where
  s : x.s.OK
  ho : BY x.ho
  hoz : NZ 16 x.ho
  si : 0 ≤ x.si ∧ x.si ≤ 105190559
/-! ### Keys -/
theorem stInj (x y : ByteArray) (h : Value.string x = Value.string y) : x = y := by cases h; rfl
theorem stKeyed : Keyed Tryz.prog 9 := string_keyed Tryz.underlying9
theorem stKey {s : ByteArray} (h : s.size ≤ 1073741824) : ∃ kl, keyOf Tryz.prog 9 (.string s) = some kl := ⟨_, WideMaps.keyOf_string_mk Tryz.underlying9 (by unfold maxLen; omega)⟩
theorem kyKeyed : Keyed Tryz.prog 103 := Keyed.of_law (deep_law (m := 3) (by omega) (by kernel_rfl) (by kernel_rfl) (by kernel_rfl))
theorem lits_str {s : ByteArray} (hs : s.size ≤ 1073741824) (D : Nat) : Tryz.prog.keyLits (D + 1) 9 [.string s] = some [.string s.data.toList] := by
  unfold Program.keyLits
  rw [Tryz.underlying9]
  simp only
  rw [if_pos (by unfold maxLen; omega)]
theorem lits_id {l : List Int} (hl : l.length = 32) (hb : ∀ x ∈ l, 0 ≤ x ∧ x ≤ 255) (D : Nat) : Tryz.prog.keyLits (D + 2) 32 (l.map (Value.int .u8)) = some (l.map (Lit.int .u8)) :=
  keyLits_bytes (P := Tryz.prog) (t := 32) (e := 5) (n := 32) Tryz.underlying32 Tryz.underlying5 (by kernel_rfl) (by kernel_rfl) hl hb D
theorem kyLits {k : Ky} (hl : k.1.length = 32) (hb : ∀ x ∈ k.1, 0 ≤ x ∧ x ≤ 255) (hs : k.2.size ≤ 1073741824) (D : Nat) : Tryz.prog.keyLits (D + 3) 103 (k.1.map (Value.int .u8) ++ [.string k.2]) = some (k.1.map (Lit.int .u8) ++ [.string k.2.data.toList]) := by
  unfold Program.keyLits
  rw [Tryz.underlying103]
  simp only
  have c0 : Tryz.prog.cellsOf 103 = 33 := by kernel_rfl
  rw [if_pos ⟨by rw [c0]; simp [hl], by decide +kernel⟩]
  have c1 : Tryz.prog.cellsOf 32 = 32 := by kernel_rfl
  have c2 : Tryz.prog.cellsOf 9 = 1 := by kernel_rfl
  simp only [List.mapM_cons, List.mapM_nil, c1, c2]
  have e1 : ((k.1.map (Value.int .u8) ++ ([.string k.2] : List Value)).drop 0).take 32 = k.1.map (Value.int .u8) := by rw [List.drop_zero, List.take_left' (by simp [hl])]
  have e2 : ((k.1.map (Value.int .u8) ++ ([.string k.2] : List Value)).drop 32).take 1 = [.string k.2] := by rw [List.drop_left' (by simp [hl])]; rfl
  rw [e1, e2, lits_id hl hb, lits_str hs]
  simp
theorem kyKey {k : Ky} (hl : k.1.length = 32) (hb : ∀ x ∈ k.1, 0 ≤ x ∧ x ≤ 255) (hs : k.2.size ≤ 1073741824) : ∃ kl, keyOf Tryz.prog 103 (kyV k) = some kl := by
  refine ⟨.string (keyBytes (k.1.map (Lit.int .u8) ++ [.string k.2.data.toList])), ?_⟩
  unfold keyOf
  rw [Tryz.underlying103]
  simp only
  have h1 : Tryz.prog.keyType 103 = true := by kernel_rfl
  have hf' : (kyV k).formed Tryz.prog 103 = true := by
    unfold Value.formed kyV
    rw [Tryz.underlying103]
    have c0 : Tryz.prog.cellsOf 103 = 33 := by kernel_rfl
    simp [c0, hl]
  rw [h1, hf']
  have h2 := kyLits hl hb hs (Tryz.prog.types.size - 2)
  have hsz : 2 ≤ Tryz.prog.types.size := by decide +kernel
  rw [show Tryz.prog.types.size - 2 + 3 = Tryz.prog.types.size + 1 by omega] at h2
  have : (kyV k).cells.toList = k.1.map (Value.int .u8) ++ [.string k.2] := by simp [kyV, Value.cells]
  rw [this, h2]
  rfl
/-! ### Submissions compared by == -/
noncomputable instance (x y : Sb) : Decidable (x.pl = y.pl) := Classical.propDecidable _
/-! ### A queue in the memory -/
/-- Moderators of a group, with their place. -/
structure MX where
  l : List (Nat → Int)
  p : Option Addr
  c : Nat
abbrev mxV (x : MX) : Value := .slice x.p x.l.length x.c
def mxz : MX := ⟨[], none, 0⟩
structure MX.OK (x : MX) : Prop where
  by_ : ∀ m ∈ x.l, BY m ∧ NZ 16 m
  len : x.l.length ≤ 8
  cap : x.l.length ≤ x.c
/-- What a queue holds. -/
structure Qu where
  room : Int
  days : Int
  wt : Int
  ms : List (ByteArray × MX)
  es : List (Ky × En)
structure Qu.OK (q : Qu) : Prop where
  room : 1 ≤ q.room ∧ q.room ≤ 10000
  days : 1 ≤ q.days ∧ q.days ≤ 365
  wt : q.wt = ((q.es.filter fun p => p.2.s.st == 0).length : Nat)
  ms : ∀ g x, aget q.ms g = some x → gnE g = 0 ∧ x.OK ∧ x.l ≠ []
  es : ∀ k x, aget q.es k = some x → x.OK ∧ k = x.s.ky ∧ gnE x.s.g = 0 ∧ x.s.tx.size ≤ 65536 ∧ x.s.rs.size ≤ 200 ∧ (0 ≤ x.s.r ∧ x.s.r ≤ 105190559) ∧ (0 ≤ x.s.de ∧ x.s.de ≤ 105190559) ∧ (0 ≤ x.s.st ∧ x.s.st ≤ 3)
/-- A queue in block b, its maps in blocks mb and eb. -/
structure Mq (w : World) (b mb eb : Nat) (q : Qu) : Prop where
  st : w.heap[b]? = some (.cells #[.int .i64 q.room, .int .i64 q.days, .int .i64 q.wt, .map (some mb), .map (some eb)] 98 (0, 0))
  mm : MapB Tryz.prog 9 Value.string w mb (amap mxV q.ms)
  me : MapB Tryz.prog 103 kyV w eb (amap enV q.es)
  row : ∀ g x, aget q.ms g = some x → RowA auC 16 w x.p x.l
  ne : mb ≠ eb
  nz : b ≠ 0

end Go.Proofs.YtfacflbmlfbeeaaGreatDoor

/- Chapter 39: numbers and texts as arguments, with their sizes. No condition. -/
namespace Go.Proofs.YtfacflbmlfbeeaaGreatDoor
open Go.ChangeShapes Go.WideShapes Go.ChangeAt Go.RowKit Go.Deep

theorem gw_of {w : World} (h : w.ShapedOpen Tryz.prog) : GW w := cell_of_shapedOpen_int (zero := #[.int .i64 0]) (t := 3) h (of_decide_eq_true (by kernel_rfl)) (by kernel_rfl) rfl (by kernel_rfl) (by kernel_rfl) Tryz.underlying3
section
variable {H : Type} {enc : TypeId × Value → H} {W : World} {base : Nat} {v : Value}
end

end Go.Proofs.YtfacflbmlfbeeaaGreatDoor

/- Chapter 39: identities, pairs of texts, truth values as arguments, with their sizes. No condition. -/
namespace Go.Proofs.YtfacflbmlfbeeaaGreatDoor
open Go.ChangeShapes Go.WideShapes Go.ChangeAt Go.RowKit Go.Deep

theorem okWide_arr39 {P : Program} {w : World} {r : Reach} {base n : Nat} {t e : TypeId} {v : Value} (ht : P.underlying t = some (.array n e)) (h : Value.okWide P w r base t v) : ∃ cs, v = .agg cs ∧ cs.size = P.cellsOf t := by
  unfold Value.okWide at h
  cases v <;> simp_all
theorem Rw.arr {H : Type} {enc : TypeId × Value → H} {P : Program} {W : World} {t : TypeId} {cs : List Value} {n : Nat} {e : TypeId} (h : Rw enc P W t cs) (ht : P.underlying t = some (.array n e)) {i : Nat} (hi : i < n) : Rw enc P W e ((cs.drop (i * P.cellsOf e)).take (P.cellsOf e)) := by
  obtain ⟨fuel, x, h, hw⟩ := h
  obtain ⟨xs, m, _, rfl, _, hxl, hg⟩ := DataW.trod_array ht h
  have hi' : i < xs.length := by omega
  refine ⟨m, xs[i], by rw [hg i hi, List.getElem?_eq_getElem hi'], fun k hk => hw k ?_⟩
  simp only [DataW.weights, ht]
  exact weightsAll_mem (List.mem_map.2 ⟨xs[i], List.getElem_mem hi', rfl⟩) k hk
section
variable {H : Type} {enc : TypeId × Value → H} {W : World} {base : Nat} {v : Value}
set_option maxRecDepth 100000 in
theorem openw_id39 (hv : Value.okWide Tryz.prog W .any base 32 v) (hr : Rw enc Tryz.prog W 32 v.cells.toList) : ∃ a : Nat → Int, v = .agg (arrI .u8 a 32 0).toArray ∧ BY a ∧ NZ 32 a := by
  obtain ⟨cs, rfl, _⟩ := okWide_arr39 Tryz.underlying32 hv
  obtain ⟨f, e0, hf⟩ := Rw.bytes hr Tryz.underlying32 Tryz.underlying5 (by kernel_rfl) (by kernel_rfl)
  obtain ⟨l⟩ := cs
  have e0 : l = arrI .u8 f 32 0 := e0
  refine ⟨fun j => if j < 32 then f j else 0, ?_, fun j => ?_, fun j hj => ?_⟩
  · rw [e0]; rfl
  · show 0 ≤ (if j < 32 then f j else 0) ∧ (if j < 32 then f j else 0) ≤ 255
    split
    · exact hf j
    · omega
  · show (if j < 32 then f j else 0) = 0
    rw [if_neg (by omega)]
set_option maxRecDepth 100000 in
theorem openw_bool39 (hv : Value.okWide Tryz.prog W .any base 4 v) : ∃ b : Bool, v = .bool b := okWide_bool Tryz.underlying4 hv
theorem cells2s : Tryz.prog.cellsOf 9 = 1 := by kernel_rfl
set_option maxRecDepth 100000 in
theorem openw_2s (hv : Value.okWide Tryz.prog W .any base 33 v) (hr : Rw enc Tryz.prog W 33 v.cells.toList) : ∃ s t : ByteArray, v = .agg (([.string s, .string t] : List Value)).toArray ∧ s.size ≤ 4611686018427387904 ∧ t.size ≤ 4611686018427387904 := by
  obtain ⟨cs, rfl, hsz⟩ := okWide_arr39 Tryz.underlying33 hv
  rw [show Tryz.prog.cellsOf 33 = 2 by kernel_rfl] at hsz
  obtain ⟨l⟩ := cs
  have hr : Rw enc Tryz.prog W 33 l := hr
  match l, hsz with
  | [c0, c1], _ =>
    have h0 := hr.arr Tryz.underlying33 (i := 0) (by decide)
    have h1 := hr.arr Tryz.underlying33 (i := 1) (by decide)
    rw [cells2s] at h0 h1
    obtain ⟨s, e0, z0⟩ := Rw.str (cs := [c0]) h0 Tryz.underlying9
    obtain ⟨t, e1, z1⟩ := Rw.str (cs := [c1]) h1 Tryz.underlying9
    simp only [List.cons.injEq, and_true] at e0 e1
    subst e0 e1
    exact ⟨s, t, rfl, by omega, by omega⟩
end

end Go.Proofs.YtfacflbmlfbeeaaGreatDoor

/-
  DERIVED: THE SHELF's CONTRACTS AT THIS DUMP, IN PLAIN WORDS (tools/lay-plain.mjs out of 'TryzShelf.lean', which tools/lay-shelf.mjs wrote): THE SAME DECLARATIONS UNDER THE SAME NAMES: 'import', 'namespace', 'open', 'def', 'theorem' AND NOTHING ELSE: no command of the shelf's: FOR A HAND-IN. Each laying: the table of numbers ('.._ren') and one theorem, a field a fact of the dump's own or the kernel's comparison; each contract: ONE APPLICATION.
-/
namespace Go.Proofs
open Go.Shelf
def Tryz.laysSlF06_f104_ren : Go.Shelf.Ren := ⟨fun | 6 => 104 | 15 => 98 | 14 => 130 | 28 => 125 | 29 => 126 | 20 => 146 | 21 => 147 | 22 => 148 | 23 => 149 | 24 => 150 | 25 => 151 | 26 => 152 | 27 => 153 | 46 => 161 | 47 => 141 | 48 => 142 | 49 => 162 | 50 => 163 | 57 => 168 | n => n, fun | 22 => 28 | 24 => 45 | 25 => 113 | 3 => 3 | 39 => 148 | 0 => 0 | 53 => 179 | 55 => 181 | 4 => 4 | 46 => 172 | 45 => 171 | 50 => 176 | 5 => 5 | 9 => 9 | 66 => 192 | 70 => 196 | 76 => 206 | 77 => 190 | n => n, fun | n => n⟩
theorem Tryz.laysSlF06_f104 : Go.Proofs.SlLaysF0.n6 Tryz.prog Tryz.laysSlF06_f104_ren := {
  mixed := by kernel_rfl
  f6 := ⟨Tryz.f104.name, by decide, Tryz.func104.trans (congrArg some (by kernel_rfl))⟩
  f14 := ⟨Tryz.f130.name, by decide, Tryz.func130.trans (congrArg some (by kernel_rfl))⟩
  f15 := Tryz.func98.trans (congrArg some (by kernel_rfl))
  f20 := ⟨Tryz.f146.name, by decide, Tryz.func146.trans (congrArg some (by kernel_rfl))⟩
  f21 := ⟨Tryz.f147.name, by decide, Tryz.func147.trans (congrArg some (by kernel_rfl))⟩
  f22 := ⟨Tryz.f148.name, by decide, Tryz.func148.trans (congrArg some (by kernel_rfl))⟩
  f23 := ⟨Tryz.f149.name, by decide, Tryz.func149.trans (congrArg some (by kernel_rfl))⟩
  f24 := ⟨Tryz.f150.name, by decide, Tryz.func150.trans (congrArg some (by kernel_rfl))⟩
  f25 := ⟨Tryz.f151.name, by decide, Tryz.func151.trans (congrArg some (by kernel_rfl))⟩
  f26 := ⟨Tryz.f152.name, by decide, Tryz.func152.trans (congrArg some (by kernel_rfl))⟩
  f27 := ⟨Tryz.f153.name, by decide, Tryz.func153.trans (congrArg some (by kernel_rfl))⟩
  f28 := Tryz.func125.trans (congrArg some (by kernel_rfl))
  f29 := Tryz.func126.trans (congrArg some (by kernel_rfl))
  f46 := ⟨Tryz.f161.name, by decide, Tryz.func161.trans (congrArg some (by kernel_rfl))⟩
  f47 := Tryz.func141.trans (congrArg some (by kernel_rfl))
  f48 := Tryz.func142.trans (congrArg some (by kernel_rfl))
  f49 := ⟨Tryz.f162.name, by decide, Tryz.func162.trans (congrArg some (by kernel_rfl))⟩
  f50 := ⟨Tryz.f163.name, by decide, Tryz.func163.trans (congrArg some (by kernel_rfl))⟩
  f57 := ⟨Tryz.f168.name, by decide, Tryz.func168.trans (congrArg some (by kernel_rfl))⟩
  t0 := Tryz.underlying0
  a0 := Tryz.isAgg0
  z0 := Tryz.sizeOf0
  v0 := Tryz.zeroValue0
  t3 := Tryz.underlying3
  a3 := Tryz.isAgg3
  z3 := Tryz.sizeOf3
  v3 := Tryz.zeroValue3
  t4 := Tryz.underlying4
  a4 := Tryz.isAgg4
  z4 := Tryz.sizeOf4
  v4 := Tryz.zeroValue4
  t5 := Tryz.underlying5
  a5 := Tryz.isAgg5
  z5 := Tryz.sizeOf5
  v5 := Tryz.zeroValue5
  t9 := Tryz.underlying9
  a9 := Tryz.isAgg9
  z9 := Tryz.sizeOf9
  v9 := Tryz.zeroValue9
  t22 := Tryz.underlying28
  a22 := Tryz.isAgg28
  z22 := Tryz.sizeOf28
  v22 := Tryz.zeroValue28
  t25 := Tryz.underlying113
  a25 := Tryz.isAgg113
  z25 := Tryz.sizeOf113
  v25 := Tryz.zeroValue113
  t39 := Tryz.underlying148
  a39 := Tryz.isAgg148
  z39 := Tryz.sizeOf148
  v39 := Tryz.zeroValue148
  t45 := Tryz.underlying171
  a45 := Tryz.isAgg171
  z45 := Tryz.sizeOf171
  v45 := Tryz.zeroValue171
  t46 := Tryz.underlying172
  a46 := Tryz.isAgg172
  z46 := Tryz.sizeOf172
  v46 := Tryz.zeroValue172
  t50 := Tryz.underlying176
  a50 := Tryz.isAgg176
  z50 := Tryz.sizeOf176
  v50 := Tryz.zeroValue176
  t53 := Tryz.underlying179
  a53 := Tryz.isAgg179
  z53 := Tryz.sizeOf179
  v53 := Tryz.zeroValue179
  t55 := Tryz.underlying181
  a55 := Tryz.isAgg181
  z55 := Tryz.sizeOf181
  v55 := Tryz.zeroValue181
  t66 := Tryz.underlying192
  a66 := Tryz.isAgg192
  z66 := Tryz.sizeOf192
  v66 := Tryz.zeroValue192
  t70 := Tryz.underlying196
  a70 := Tryz.isAgg196
  z70 := Tryz.sizeOf196
  v70 := Tryz.zeroValue196
  t76 := Tryz.underlying206
  a76 := Tryz.isAgg206
  z76 := Tryz.sizeOf206
  v76 := Tryz.zeroValue206
  t77 := Tryz.underlying190
  a77 := Tryz.isAgg190
  z77 := Tryz.sizeOf190
  v77 := Tryz.zeroValue190 }
open Go.RowKit Go.Lib in
/-- slices.SortFunc at no element. -/
theorem Tryz.slices_SortFunc_none104 (p : Option Addr) (cap : Nat) (fv : Value) (w : World) :
    Calls Tryz.prog 104 #[.slice p 0 cap, fv] w fun e w' => e = .returned (.tuple #[]) ∧ w' = w := AnyF.slices_SortFunc_none Tryz.laysSlF06_f104 p cap fv w
def Tryz.laysSlF06_f67_ren : Go.Shelf.Ren := ⟨fun | 6 => 67 | 15 => 98 | 14 => 97 | 28 => 125 | 29 => 126 | 20 => 117 | 21 => 118 | 22 => 119 | 23 => 120 | 24 => 121 | 25 => 122 | 26 => 123 | 27 => 124 | 46 => 140 | 47 => 141 | 48 => 142 | 49 => 143 | 50 => 144 | 57 => 159 | n => n, fun | 22 => 71 | 24 => 48 | 25 => 124 | 3 => 3 | 39 => 148 | 0 => 0 | 53 => 179 | 55 => 181 | 4 => 4 | 46 => 172 | 45 => 171 | 50 => 176 | 5 => 5 | 9 => 9 | 66 => 192 | 70 => 196 | 76 => 206 | 77 => 190 | n => n, fun | n => n⟩
theorem Tryz.laysSlF06_f67 : Go.Proofs.SlLaysF0.n6 Tryz.prog Tryz.laysSlF06_f67_ren := {
  mixed := by kernel_rfl
  f6 := ⟨Tryz.f67.name, by decide, Tryz.func67.trans (congrArg some (by kernel_rfl))⟩
  f14 := ⟨Tryz.f97.name, by decide, Tryz.func97.trans (congrArg some (by kernel_rfl))⟩
  f15 := Tryz.func98.trans (congrArg some (by kernel_rfl))
  f20 := ⟨Tryz.f117.name, by decide, Tryz.func117.trans (congrArg some (by kernel_rfl))⟩
  f21 := ⟨Tryz.f118.name, by decide, Tryz.func118.trans (congrArg some (by kernel_rfl))⟩
  f22 := ⟨Tryz.f119.name, by decide, Tryz.func119.trans (congrArg some (by kernel_rfl))⟩
  f23 := ⟨Tryz.f120.name, by decide, Tryz.func120.trans (congrArg some (by kernel_rfl))⟩
  f24 := ⟨Tryz.f121.name, by decide, Tryz.func121.trans (congrArg some (by kernel_rfl))⟩
  f25 := ⟨Tryz.f122.name, by decide, Tryz.func122.trans (congrArg some (by kernel_rfl))⟩
  f26 := ⟨Tryz.f123.name, by decide, Tryz.func123.trans (congrArg some (by kernel_rfl))⟩
  f27 := ⟨Tryz.f124.name, by decide, Tryz.func124.trans (congrArg some (by kernel_rfl))⟩
  f28 := Tryz.func125.trans (congrArg some (by kernel_rfl))
  f29 := Tryz.func126.trans (congrArg some (by kernel_rfl))
  f46 := ⟨Tryz.f140.name, by decide, Tryz.func140.trans (congrArg some (by kernel_rfl))⟩
  f47 := Tryz.func141.trans (congrArg some (by kernel_rfl))
  f48 := Tryz.func142.trans (congrArg some (by kernel_rfl))
  f49 := ⟨Tryz.f143.name, by decide, Tryz.func143.trans (congrArg some (by kernel_rfl))⟩
  f50 := ⟨Tryz.f144.name, by decide, Tryz.func144.trans (congrArg some (by kernel_rfl))⟩
  f57 := ⟨Tryz.f159.name, by decide, Tryz.func159.trans (congrArg some (by kernel_rfl))⟩
  t0 := Tryz.underlying0
  a0 := Tryz.isAgg0
  z0 := Tryz.sizeOf0
  v0 := Tryz.zeroValue0
  t3 := Tryz.underlying3
  a3 := Tryz.isAgg3
  z3 := Tryz.sizeOf3
  v3 := Tryz.zeroValue3
  t4 := Tryz.underlying4
  a4 := Tryz.isAgg4
  z4 := Tryz.sizeOf4
  v4 := Tryz.zeroValue4
  t5 := Tryz.underlying5
  a5 := Tryz.isAgg5
  z5 := Tryz.sizeOf5
  v5 := Tryz.zeroValue5
  t9 := Tryz.underlying9
  a9 := Tryz.isAgg9
  z9 := Tryz.sizeOf9
  v9 := Tryz.zeroValue9
  t22 := Tryz.underlying71
  a22 := Tryz.isAgg71
  z22 := Tryz.sizeOf71
  v22 := Tryz.zeroValue71
  t25 := Tryz.underlying124
  a25 := Tryz.isAgg124
  z25 := Tryz.sizeOf124
  v25 := Tryz.zeroValue124
  t39 := Tryz.underlying148
  a39 := Tryz.isAgg148
  z39 := Tryz.sizeOf148
  v39 := Tryz.zeroValue148
  t45 := Tryz.underlying171
  a45 := Tryz.isAgg171
  z45 := Tryz.sizeOf171
  v45 := Tryz.zeroValue171
  t46 := Tryz.underlying172
  a46 := Tryz.isAgg172
  z46 := Tryz.sizeOf172
  v46 := Tryz.zeroValue172
  t50 := Tryz.underlying176
  a50 := Tryz.isAgg176
  z50 := Tryz.sizeOf176
  v50 := Tryz.zeroValue176
  t53 := Tryz.underlying179
  a53 := Tryz.isAgg179
  z53 := Tryz.sizeOf179
  v53 := Tryz.zeroValue179
  t55 := Tryz.underlying181
  a55 := Tryz.isAgg181
  z55 := Tryz.sizeOf181
  v55 := Tryz.zeroValue181
  t66 := Tryz.underlying192
  a66 := Tryz.isAgg192
  z66 := Tryz.sizeOf192
  v66 := Tryz.zeroValue192
  t70 := Tryz.underlying196
  a70 := Tryz.isAgg196
  z70 := Tryz.sizeOf196
  v70 := Tryz.zeroValue196
  t76 := Tryz.underlying206
  a76 := Tryz.isAgg206
  z76 := Tryz.sizeOf206
  v76 := Tryz.zeroValue206
  t77 := Tryz.underlying190
  a77 := Tryz.isAgg190
  z77 := Tryz.sizeOf190
  v77 := Tryz.zeroValue190 }
open Go.RowKit Go.Lib in
/-- slices.SortFunc at no element. -/
theorem Tryz.slices_SortFunc_none67 (p : Option Addr) (cap : Nat) (fv : Value) (w : World) :
    Calls Tryz.prog 67 #[.slice p 0 cap, fv] w fun e w' => e = .returned (.tuple #[]) ∧ w' = w := AnyF.slices_SortFunc_none Tryz.laysSlF06_f67 p cap fv w
end Go.Proofs

/- The formulas of functions by the symbolic evaluator, and that each gives the call's contract. Written by a program (gen.py). No condition. -/
namespace Go.Proofs.YtfacflbmlfbeeaaGreatDoor
set_option maxRecDepth 100000
set_option linter.unusedVariables false

def VC_mcompare (a : Array Value) (b : Array Value) (w : World) (R : Ending → World → Prop) : Prop :=
 ∀ (n : Nat) (w1 : World),
 NewB w (Obj.cells a 32) n w1 →
 ∀ (n_1 : Nat) (w1_1 : World),
 NewB w1 (Obj.cells b 32) n_1 w1_1 →
 CallsS Tryz.prog 106 #[Value.slice (some (Addr.mk n 0 none)) 32 32, Value.slice (some (Addr.mk n_1 0 none)) 32 32]
 w1_1.drew fun (e : Ending) (w' : World) =>
 ∃ (x : Int), e = Ending.returned (Value.int IntKind.i64 x) ∧ R (Ending.returned (Value.int IntKind.i64 x)) w'
theorem vc_mcompare (a : Array Value) (b : Array Value) (w : World) (R : Ending → World → Prop) (h : VC_mcompare a b w R) : Calls Tryz.prog 101 ([Value.agg
    a,
  Value.agg b] : List Value).toArray w R := by
  have e : execR { P := Tryz.prog, loops := [], pur := pur1, tails := [(1, 2)], joins := [], boxes := [] } Tryz.f101.results.toList R (Tryz.f101.body.getD .skip) (initF [Value.agg
    a,
  Value.agg
    b] (Tryz.f101.ntmps - ([Value.agg a, Value.agg b] : List Value).length)) w = VC_mcompare a b w R := by kernel_rfl
  have hb : Tryz.f101.body = some (Tryz.f101.body.getD .skip) := by kernel_rfl
  exact calls_of_exec' (P := Tryz.prog) (fn := Tryz.f101) (c := Tryz.f101.body.getD .skip) (args := [Value.agg a,
  Value.agg b]) (w := w) (R := R) pur1_ok Tryz.func101 hb e h

def VC_cmpOr (p : Option Addr) (n : Nat) (c : Nat) (w : World) (R : Ending → World → Prop) : Prop :=
 ∃ (I : List Value → World → Prop),
 ∃ (m : List Value → World → Nat),
 I [Value.int IntKind.i64 0] w ∧
 ∀ (x : Int) (w' : World),
 I [Value.int IntKind.i64 x] w' →
 bsp (decide (x < (↑n : Int)))
 (nn true p fun (b o : Nat) =>
 (0 ≤ x ∧ x < (↑n : Int)) ∧
 ∃ (x_1 : Int),
 w'.cell? (Addr.mk b (o + x.toNat) none) = some (Value.int IntKind.i64 x_1) ∧
 bsp (x_1 != 0) (R (Ending.returned (Value.int IntKind.i64 x_1)) w')
 (I [Value.int IntKind.i64 (IntKind.i64.wrap (x + 1))] w' ∧
 m [Value.int IntKind.i64 (IntKind.i64.wrap (x + 1))] w' < m [Value.int IntKind.i64 x] w'))
 (R (Ending.returned (Value.int IntKind.i64 0)) w')
theorem vc_cmpOr (p : Option Addr) (n : Nat) (c : Nat) (w : World) (R : Ending → World → Prop) (h : VC_cmpOr p n c w R) : Calls Tryz.prog 99 ([Value.slice
    p n c] : List Value).toArray w R := by
  have e : execR { P := Tryz.prog, loops := [(3, [(8, Ck.int IntKind.i64)])], pur := pur1, tails := [], joins := [], boxes := [] } Tryz.f99.results.toList R (Tryz.f99.body.getD .skip) (initF [Value.slice
    p n c] (Tryz.f99.ntmps - ([Value.slice p n c] : List Value).length)) w = VC_cmpOr p n c w R := by kernel_rfl
  have hb : Tryz.f99.body = some (Tryz.f99.body.getD .skip) := by kernel_rfl
  exact calls_of_exec' (P := Tryz.prog) (fn := Tryz.f99) (c := Tryz.f99.body.getD .skip) (args := [Value.slice p n
    c]) (w := w) (R := R) pur1_ok Tryz.func99 hb e h

end Go.Proofs.YtfacflbmlfbeeaaGreatDoor

/- The formulas of functions by the symbolic evaluator, and that each gives the call's contract. Written by a program (gen.py). No condition. -/
namespace Go.Proofs.YtfacflbmlfbeeaaGreatDoor
set_option maxRecDepth 100000
set_option linter.unusedVariables false

def VC_nanS (a : ByteArray) (w : World) (R : Ending → World → Prop) : Prop :=
 R (Ending.returned (Value.bool !a.toList == a.toList)) w
theorem vc_nanS (a : ByteArray) (w : World) (R : Ending → World → Prop) (h : VC_nanS a w R) : Calls Tryz.prog 160 ([Value.string
    a] : List Value).toArray w R := by
  have e : execR { P := Tryz.prog, loops := [], pur := pur1, tails := [], joins := [], boxes := [] } Tryz.f160.results.toList R (Tryz.f160.body.getD .skip) (initF [Value.string
    a] (Tryz.f160.ntmps - ([Value.string a] : List Value).length)) w = VC_nanS a w R := by kernel_rfl
  have hb : Tryz.f160.body = some (Tryz.f160.body.getD .skip) := by kernel_rfl
  exact calls_of_exec' (P := Tryz.prog) (fn := Tryz.f160) (c := Tryz.f160.body.getD .skip) (args := [Value.string
    a]) (w := w) (R := R) pur1_ok Tryz.func160 hb e h

def VC_cmpS (a : ByteArray) (b : ByteArray) (w : World) (R : Ending → World → Prop) : Prop :=
 CallsS Tryz.prog 160 #[Value.string a] w fun (e : Ending) (w' : World) =>
 ∃ (x : Bool),
 e = Ending.returned (Value.bool x) ∧
 CallsS Tryz.prog 160 #[Value.string b] w' fun (e : Ending) (w' : World) =>
 ∃ (x_1 : Bool),
 e = Ending.returned (Value.bool x_1) ∧
 bsp x
 (bsp x_1 (R (Ending.returned (Value.int IntKind.i64 0)) w')
 (R (Ending.returned (Value.int IntKind.i64 (-1))) w'))
 (bsp x_1 (R (Ending.returned (Value.int IntKind.i64 1)) w')
 (bsp (Op.bytesLess a.toList b.toList) (R (Ending.returned (Value.int IntKind.i64 (-1))) w')
 (bsp (!(Op.bytesLess a.toList b.toList || a.toList == b.toList))
 (R (Ending.returned (Value.int IntKind.i64 1)) w') (R (Ending.returned (Value.int IntKind.i64 0)) w'))))
theorem vc_cmpS (a : ByteArray) (b : ByteArray) (w : World) (R : Ending → World → Prop) (h : VC_cmpS a b w R) : Calls Tryz.prog 145 ([Value.string
    a,
  Value.string b] : List Value).toArray w R := by
  have e : execR { P := Tryz.prog, loops := [], pur := pur1, tails := [], joins := [], boxes := [] } Tryz.f145.results.toList R (Tryz.f145.body.getD .skip) (initF [Value.string
    a,
  Value.string
    b] (Tryz.f145.ntmps - ([Value.string a, Value.string b] : List Value).length)) w = VC_cmpS a b w R := by kernel_rfl
  have hb : Tryz.f145.body = some (Tryz.f145.body.getD .skip) := by kernel_rfl
  exact calls_of_exec' (P := Tryz.prog) (fn := Tryz.f145) (c := Tryz.f145.body.getD .skip) (args := [Value.string a,
  Value.string b]) (w := w) (R := R) pur1_ok Tryz.func145 hb e h

end Go.Proofs.YtfacflbmlfbeeaaGreatDoor

/- Chapter 21: definitions compared and sorted. -/
namespace Go.Proofs.YtfacflbmlfbeeaaGreatDoor
open Go.RowKit Go.Sort

theorem bytesOf_idB (f : Nat → Int) : Lib.bytesOf (idI f) = idB f := rfl
set_option maxRecDepth 100000 in
theorem bcompare_run {w : World} {b b' o o' : Nat} {f g : Nat → Int} (h : ∀ j, j < 32 → w.cell? ⟨b, o + j, none⟩ = some (.int .u8 (f j))) (h' : ∀ j, j < 32 → w.cell? ⟨b', o' + j, none⟩ = some (.int .u8 (g j))) (c c' : Nat) :
    (Extern.BytealgCompare.compare #[.slice (some ⟨b, o, none⟩) 32 c, .slice (some ⟨b', o', none⟩) 32 c']).run Tryz.prog w = .ok (.int .i64 (Lib.compareBytes (idB f) (idB g))) w := by
  have key : ∀ (b o : Nat) (f : Nat → Int), (∀ j, j < 32 → w.cell? ⟨b, o + j, none⟩ = some (.int .u8 (f j))) → (Extern.Bytes.loadBytes ⟨b, o, none⟩ 32 .empty).run Tryz.prog w = .ok ⟨(idB f).toArray⟩ w := fun b o f h => by
    have := Lib.run_loadBytesX (P := Tryz.prog) w (idI f) ⟨b, o, none⟩ .empty (fun j x hj => by
      have hlt : j < 32 := by have := (List.getElem?_eq_some_iff.1 hj).1; simpa [idI] using this
      rw [idI_get f hlt] at hj
      simp at hj
      subst hj
      have e : (⟨b, o, none⟩ : Addr).add j = ⟨b, o + j, none⟩ := by
        unfold Addr.add
        simp
      rw [e]
      exact h j hlt)
    have hl : (idI f).length = 32 := by simp [idI]
    rw [hl, bytesOf_idB] at this
    rw [this]
    generalize idB f = l
    have e : ByteArray.empty.data ++ l.toArray = l.toArray := by
      show (#[] : Array UInt8) ++ l.toArray = l.toArray
      simp
    rw [e]
  change Sem.run Tryz.prog (do pure (goInt (Extern.BytealgCompare.cmp (← Extern.Bytes.bytesOf (.slice (some ⟨b, o, none⟩) 32 c)) (← Extern.Bytes.bytesOf (.slice (some ⟨b', o', none⟩) 32 c'))))) w = _
  simp only [Extern.Bytes.bytesOf, Sem.run_bind, key b o f h, key b' o' g h', Sem.run_pure, Result.andThen]
  rw [Lib.cmp_eq]
  rfl
set_option maxHeartbeats 1000000 in
set_option maxRecDepth 100000 in
theorem bcompare_any {w : World} {b b' o o' : Nat} {f g : Nat → Int} (h : ∀ j, j < 32 → w.cell? ⟨b, o + j, none⟩ = some (.int .u8 (f j))) (h' : ∀ j, j < 32 → w.cell? ⟨b', o' + j, none⟩ = some (.int .u8 (g j))) (c c' : Nat) :
    Calls Tryz.prog 106 #[.slice (some ⟨b, o, none⟩) 32 c, .slice (some ⟨b', o', none⟩) 32 c'] w fun e w' => e = .returned (.int .i64 (Lib.compareBytes (idB f) (idB g))) ∧ w' = w := by
  have hr := bcompare_run h h' c c'
  generalize Lib.compareBytes (idB f) (idB g) = r at hr ⊢
  clear h h'
  go_enter Tryz.func106, Tryz.ntmps106
  go_wp2
  rw [run_callFunc_extern Tryz.func131 (by kernel_rfl) (by kernel_rfl) (by kernel_rfl) (e := Extern.BytealgCompare.compare) (by kernel_rfl), hr]
  simp only [Result.andThen]
  rw [Oper.upon_value]
  go_wp2
  go_ret
  exact ⟨rfl, rfl⟩

theorem mcompare_any (f g : Nat → Int) (w : World) : Calls Tryz.prog 101 #[.agg (arrI .u8 f 32 0).toArray, .agg (arrI .u8 g 32 0).toArray] w fun e w' => e = .returned (.int .i64 (Lib.compareBytes (idB f) (idB g))) ∧ K0 w w' ∧ w.drawn ≤ w'.drawn := by
  refine vc_mcompare _ _ w _ ?_
  intro n w1 hn n1 w2 hn1
  have b1 := (hn1.kp (fun _ => False)).blk hn.block (fun h => h)
  have b2 := hn1.block
  have hd : w2.drawn = w.drawn := by rw [hn1.hw, hn.hw]; rfl
  refine ⟨(bcompare_any (w := w2.drew) (f := f) (g := g) (fun j hj => cell_at (blk_drew b1) ?_) (fun j hj => cell_at (blk_drew b2) ?_) 32 32).mono fun e w' ⟨he, hw⟩ => ⟨_, he, rfl, ?_, ?_⟩⟩
  · rw [Nat.zero_add]; simpa using arrI_get .u8 f 32 0 j hj
  · rw [Nat.zero_add]; simpa using arrI_get .u8 g 32 0 j hj
  · rw [hw]; exact ((hn.kp _).trans (hn1.kp _)).drew
  · rw [hw]; show w.drawn ≤ w2.drawn + 1; omega
/-! ### Texts compared -/
theorem bl_cb : ∀ a b : List UInt8, Op.bytesLess a b = decide (Lib.compareBytes a b < 0)
  | [], [] => rfl
  | [], _ :: _ => rfl
  | _ :: _, [] => rfl
  | a :: l, b :: m => by
    unfold Op.bytesLess Lib.compareBytes
    by_cases h1 : a < b
    · simp [h1]
    · by_cases h2 : b < a
      · have h3 : a ≠ b := fun e => by subst e; exact h1 h2
        simp [h1, h2, h3]
      · have h3 : a = b := UInt8.le_antisymm (UInt8.not_lt.1 h2) (UInt8.not_lt.1 h1)
        subst h3
        simp [bl_cb l m]
theorem nanS_any (a : ByteArray) (w : World) : Calls Tryz.prog 160 #[.string a] w fun e w' => e = .returned (.bool false) ∧ w' = w := vc_nanS a w _ ⟨by simp, rfl⟩
theorem cmpS_any (a b : ByteArray) (w : World) : Calls Tryz.prog 145 #[.string a, .string b] w fun e w' => e = .returned (.int .i64 (Lib.compareBytes a.data.toList b.data.toList)) ∧ w' = w := by
  refine vc_cmpS a b w _ ⟨(nanS_any a w).mono fun e w1 ⟨he, hw⟩ => ⟨_, he, ?_⟩⟩
  subst hw
  refine ⟨(nanS_any b w1).mono fun e w2 ⟨he, hw⟩ => ⟨_, he, ?_⟩⟩
  subst hw
  have e1 : a.toList = a.data.toList := ByteArray.toList_eq a
  have e2 : b.toList = b.data.toList := ByteArray.toList_eq b
  rw [e1, e2, bl_cb]
  have ha := cb_anti a.data.toList b.data.toList
  have hcases : Lib.compareBytes a.data.toList b.data.toList = -1 ∨ Lib.compareBytes a.data.toList b.data.toList = 0 ∨ Lib.compareBytes a.data.toList b.data.toList = 1 := by
    have key : ∀ l m : List UInt8, Lib.compareBytes l m = -1 ∨ Lib.compareBytes l m = 0 ∨ Lib.compareBytes l m = 1 := by
      intro l
      induction l with
      | nil => intro m; cases m <;> simp [Lib.compareBytes]
      | cons x l ih =>
        intro m
        cases m with
        | nil => simp [Lib.compareBytes]
        | cons y m =>
          unfold Lib.compareBytes
          split
          · exact .inl rfl
          split
          · exact .inr (.inr rfl)
          · exact ih m
    exact key _ _
  refine bsp_intro (fun h => by cases h) (fun _ => bsp_intro (fun h => by cases h) (fun _ => bsp_intro (fun h => ?_) (fun h => bsp_intro (fun h2 => ?_) (fun h2 => ?_))))
  · have h := of_decide_eq_true h
    exact ⟨by congr 2; omega, rfl⟩
  · have h := of_decide_eq_false h
    simp only [Bool.not_eq_true', Bool.or_eq_false_iff, beq_eq_false_iff_ne] at h2
    have : Lib.compareBytes a.data.toList b.data.toList ≠ 0 := fun e => h2.2 (cb_zero _ _ e)
    exact ⟨by congr 2; omega, rfl⟩
  · have h := of_decide_eq_false h
    rw [decide_eq_false h] at h2
    have h3 : a.data.toList = b.data.toList := by simpa using h2
    exact ⟨by congr 2; rw [h3, cb_self], rfl⟩


/-! ### Sorted -/
theorem sortW_kp {α : Type} [Inhabited α] (enc : α → List Value) (k : Nat) (w : World) (blk off m : Nat) (dk : Array α) (os : Array Obj) : Kp (· = blk) w (sortWorldK enc k w blk off m dk os) := by
  refine ⟨rfl, rfl, rfl, size_sortWorldK_c enc k w blk off m dk os, fun i hi hne => ?_⟩
  show (((Sort.ahead w m).heap.modify blk _) ++ os)[i]? = _
  rw [Array.getElem?_append_left (by simpa [Sort.ahead] using hi), Array.getElem?_modify, if_neg (fun e => hne e.symm)]
  rfl
/-- The row's block is of the same make. -/
theorem sortW_blk {α : Type} [Inhabited α] (enc : α → List Value) (k : Nat) (w : World) (blk off m : Nat) (dk : Array α) (os : Array Obj) {cur : Array Value} {t : TypeId} (h : w.heap[blk]? = some (.cells cur t (0, 0))) : ∃ cur' : Array Value, cur'.size = cur.size ∧ (sortWorldK enc k w blk off m dk os).heap[blk]? = some (.cells cur' t (0, 0)) := by
  have hlt := block_lt h
  refine ⟨putCells id off (flatK enc k dk) cur, by simp [putCells], ?_⟩
  show (((Sort.ahead w m).heap.modify blk (onCells (putCells id off (flatK enc k dk)))) ++ os)[blk]? = _
  rw [Array.getElem?_append_left (by simpa [Sort.ahead] using hlt), Array.getElem?_modify, if_pos rfl]
  have e : (Sort.ahead w m).heap[blk]? = w.heap[blk]? := rfl
  rw [e, h]
  rfl

end Go.Proofs.YtfacflbmlfbeeaaGreatDoor

/- Words of a walk under a fence: arrays and structs are loaded, made, stored. Generic: no program, no condition. -/
namespace Go.Proofs.YtfacflbmlfbeeaaGreatDoor
open Go.RowKit Go.Shelf

section
variable {F : Fence} {n : Nat} {P : Program} {ops : Array Oper} {rest : List Oper} {o : Oper} {a : Act} {w : World} {Q : Exit → Act → World → Prop}
theorem wi_val {v : Value} {w' : World} (hg : o.guard = none) (hd : ∀ c, o.op ≠ .defer c) (ha : o.about P w a.eval = none) (hr : (execOp a.eval o).run P w = .ok (.value v) w') (h : wpListIn F n P ops Q rest (a.put o.dst v) w') : wpListIn F n P ops Q (o :: rest) a w := by
  refine wpListIn_plain hg fun K hK => ?_
  unfold Oper.wpIn
  refine ⟨fun f hf => (by rw [ha] at hf; cases hf), ?_⟩
  rw [Oper.semAt_plain F _ _ hd, hr]
  exact hK _ _ h
theorem wi_skip {w' : World} (hg : o.guard = none) (hd : ∀ c, o.op ≠ .defer c) (ha : o.about P w a.eval = none) (hr : (execOp a.eval o).run P w = .ok .skip w') (h : wpListIn F n P ops Q rest (a.put o.dst undef) w') : wpListIn F n P ops Q (o :: rest) a w := by
  refine wpListIn_plain hg fun K hK => ?_
  unfold Oper.wpIn
  refine ⟨fun f hf => (by rw [ha] at hf; cases hf), ?_⟩
  rw [Oper.semAt_plain F _ _ hd, hr]
  exact hK _ _ h
theorem wi_load {t : TypeId} {p : Operand} {b ofs k : Nat} {cs : List Value} {agg : Bool} (hg : o.guard = none) (hop : o.op = .load t p) (he : a.eval p = .pointer (some ⟨b, ofs, none⟩)) (hk : ldK P t = some (agg, k)) (hn : (cs.length == k) = true) (hA : AtL w b ofs cs) {v : Value} (hv : toV agg cs = v)
    (h : wpListIn F n P ops Q rest (a.put o.dst v) w) : wpListIn F n P ops Q (o :: rest) a w := by
  refine wi_val hg (fun c e => by rw [hop] at e; cases e) (by simp [Oper.about, hop]) ?_ h
  subst hv
  have := run_loadAt (P := P) hk hn hA.h
  simp [execOp, hop, he, this]
theorem wi_alloc {t : TypeId} {z : Value} (hg : o.guard = none) (hop : o.op = .alloc t) (hz : Sem.ev P (zeroValue t) = some z) (h : wpListIn F n P ops Q rest (a.put o.dst (.pointer (some ⟨w.heap.size, 0, none⟩))) (w.alloc (.cells z.cells t))) : wpListIn F n P ops Q (o :: rest) a w := by
  refine wi_val hg (fun c e => by rw [hop] at e; cases e) (by simp [Oper.about, hop]) ?_ h
  have := run_alloc2 (P := P) (w := w) hz
  simp [execOp, hop, this]
theorem wi_store {t : TypeId} {p x : Operand} {b ofs k : Nat} {v : Value} (hg : o.guard = none) (hop : o.op = .store t p x) (hp : a.eval p = .pointer (some ⟨b, ofs, none⟩)) (hx : a.eval x = v) (hs : szOf P t = some k) (hl : (v.cells.size == k) = true) (h1 : oneB v.cells.toList = true) (hw : WrF w b ofs k)
    (h : ∀ w', PutB w b ofs v.cells.toList w' → wpListIn F n P ops Q rest (a.put o.dst undef) w') : wpListIn F n P ops Q (o :: rest) a w := by
  obtain ⟨w', hr, hk⟩ := storeF_ok (E := ⟨P, [], fun _ _ => none, [], [], [], []⟩) (t := t) (x := .pointer (some ⟨b, ofs, none⟩)) (v := v) (w := w) (K := fun w' => PutB w b ofs v.cells.toList w') (by
    unfold storeF
    simp only [hs, h1, hl]
    exact ⟨hw, fun _ h => h⟩)
  refine wi_skip hg (fun c e => by rw [hop] at e; cases e) (by simp [Oper.about, hop]) ?_ (h w' hk)
  simp [execOp, hop, hp, hx, hr]
theorem wi_slice {t : TypeId} {len : Nat} {parts : Array (Nat × Operand)} {e : TypeId} {cells : Array Value} (hg : o.guard = none) (hop : o.op = .buildSlice t len parts) (hr : Sem.ev P (rowS2 t len (parts.map fun x => (x.1, a.eval x.2))) = some (e, cells))
    (h : wpListIn F n P ops Q rest (a.put o.dst (.slice (some ⟨w.heap.size, 0, none⟩) len len)) (w.alloc (.cells cells e))) : wpListIn F n P ops Q (o :: rest) a w := by
  refine wi_val hg (fun c e => by rw [hop] at e; cases e) (by simp [Oper.about, hop]) ?_ h
  have := run_slice2 (P := P) (w := w) hr
  simp [execOp, hop, this]
end

end Go.Proofs.YtfacflbmlfbeeaaGreatDoor

/- Ranges over functions: slices.Values, slices.AppendSeq, slices.Collect at authors. Rows that are not too long. -/
namespace Go.Proofs.YtfacflbmlfbeeaaGreatDoor
open Go.RowKit Go.Shelf

attribute [local go_sem] Oper.semAt_some

abbrev auV (x : Nat → Int) : Value := .agg (auC x).toArray
set_option maxRecDepth 100000 in
set_option maxHeartbeats 2000000 in
theorem avals1_in (n : Nat) (hn : 1 ≤ n) (l Bs n₀ : Nat) (p : Option Addr) (c : Nat) (zs : List (Nat → Int)) (hz : zs.length ≤ 1000000) (J Jx : List (Nat → Int) → World → Prop)
    (hY : ∀ pre x W, J pre W → pre.length < zs.length → YieldAt Fence.wide (n - 1) Tryz.prog l #[auV x] W fun e W' =>
      (e = .returned (.bool true) ∧ J (pre ++ [x]) W' ∧ Below n₀ W W') ∨ (e = .returned (.bool false) ∧ Jx (pre ++ [x]) W'))
    (W : World) (hJ : AbidesFrom W.heap.size J) (hBs : W.cell? ⟨Bs, 0, none⟩ = some (.slice p zs.length c)) (hR : RowA auC 16 W p zs) (hn₀ : n₀ ≤ W.heap.size) (hp : ∀ g o, p = some ⟨g, o, none⟩ → g < n₀) (h0 : J [] W) :
    CallsIn Fence.wide n Tryz.prog 105 #[.func (.yield l) #[] #[], .pointer (some ⟨Bs, 0, none⟩)] W fun e W' => (∃ v, e = .returned v) ∧
      ((∃ ys, ys = zs ∧ J ys W') ∨ (∃ pre, pre <+: zs ∧ Jx pre W')) := by
  refine callsIn_of_wp Tryz.func105 rfl trivial ?_ rfl
  simp only [Tryz.ntmps105, List.size_toArray, List.length_cons, List.length_nil, Nat.reduceAdd, Nat.reduceSub, Array.replicate_succ, Array.replicate_zero, List.push_toArray, List.append_toArray, List.nil_append, List.cons_append]
  gi_wp2
  gi_loopw [7] (fun i wr => ∃ k : Nat, k ≤ zs.length ∧ i = .int .i64 k ∧ J (zs.take k) wr ∧ Below n₀ W wr ∧ W.heap.size ≤ wr.heap.size)
    (fun i _ => zs.length - (intOf i).toNat)
  case atStart => exact ⟨0, Nat.zero_le _, rfl, h0, Below.refl _ _, Nat.le_refl _⟩
  case round =>
    obtain ⟨k, hk, rfl, hJs, hnx, hsz⟩ := hrel
    by_cases hlt : k < zs.length
    · obtain ⟨x, gb, go, hx, hpp, hat⟩ := hR.get hlt
      subst hpp
      have hgb : gb < n₀ := hp gb go rfl
      have hat' : AtL wr gb (go + k * 16) (auC x) := ⟨At_of _ _ fun j v hv => (hnx.cell (p := ⟨gb, _, none⟩) hgb).trans (hat.cell hv)⟩
      gi_wp2_with (first
        | (refine wi_load (t := 45) (k := 16) (agg := true) (cs := auC x) rfl rfl rfl (by kernel_rfl) rfl (by first | exact hat' | exact hatB) (v := auV x) rfl ?_)
        | (refine wi_alloc (t := 45) (z := auV fun _ => 0) rfl rfl (by kernel_rfl) ?_)
        | (refine wi_store (t := 45) (k := 16) (v := auV x) rfl rfl rfl rfl (by kernel_rfl) rfl rfl (WrF_block (block_alloc wr _) rfl) ?_; intro w2 hp2; have hb2 := hp2.full (block_alloc wr _) rfl; have hatB : AtL w2 wr.heap.size 0 (auC x) := AtL_block hb2 rfl; have hk2 : K0 wr w2 := put_k0 ((Kp.refl _ _).alloc _) hp2 (Nat.le_refl _); have hJ2 : J (zs.take k) w2 := hJ _ _ _ none hJs ⟨hk2.os, hk2.tape, hk2.output, hk2.size, fun i hi _ => hk2.block i hi (fun h => h)⟩ (fun r e => by cases e); obtain ⟨fn, tmps, assign, body, hy, hRo⟩ := hY _ x w2 hJ2 (by rw [List.length_take]; omega))
        | gi_in)
      refine hRo.mono ?_
      have hs : zs.take k ++ [x] = zs.take (k + 1) := (take_snoc hx).symm
      have hz2 := hk2.size
      rintro e W3 (⟨rfl, hJ3, hk3⟩ | ⟨rfl, hJx3⟩)
      · gi_wp2
        go_roundw
        case rel => exact ⟨k + 1, by omega, by simp, by rw [← hs]; exact hJ3, (hnx.trans ⟨hk2.os, hk2.tape, hk2.output, hk2.size, fun i hi => hk2.block i (by omega) (fun h => h)⟩).trans hk3, by have := hk3.size; omega⟩
        case measure => simp [intOf]; omega
      · gi_wp2
        refine bodyPost_ret (results_none rfl _ _ _) rfl ?_
        exact ⟨⟨_, rfl⟩, .inr ⟨_, by rw [hs]; exact List.take_prefix _ _, hJx3⟩⟩
    · obtain rfl : k = zs.length := by omega
      rw [List.take_length] at hJs
      gi_wp2
      go_end0
      exact ⟨⟨_, rfl⟩, .inl ⟨_, rfl, hJs⟩⟩

theorem RowA.below {α : Type} {f : α → List Value} {L : Nat} {w w' : World} {p : Option Addr} {l : List α} {n₀ : Nat} (h : RowA f L w p l) (hb : Below n₀ w w') (hp : ∀ g o, p = some ⟨g, o, none⟩ → g < n₀) : RowA f L w' p l := fun k y hy => by
  obtain ⟨b, o, h1, h2⟩ := h k y hy
  exact ⟨b, o, h1, ⟨At_of _ _ fun j v hv => (hb.cell (p := ⟨b, _, none⟩) (hp b o h1)).trans (h2.cell hv)⟩⟩
theorem avals_stops (n : Nat) (hn : 1 ≤ n) (Bs n₀ : Nat) (p : Option Addr) (c : Nat) (zs : List (Nat → Int)) (hz : zs.length ≤ 1000000) (w : World) (hBs : Bs < w.heap.size) (hn₀ : n₀ ≤ w.heap.size)
    (hc : w.cell? ⟨Bs, 0, none⟩ = some (.slice p zs.length c)) (hR : RowA auC 16 w p zs) (hp : ∀ g o, p = some ⟨g, o, none⟩ → g < n₀) :
    SeqStopsK Fence.wide n Tryz.prog 105 #[.pointer (some ⟨Bs, 0, none⟩)] (fun x : Nat → Int => #[auV x]) (Below n₀) (fun ys => ys = zs) (fun pre => pre <+: zs) zs.length w := fun l J Jx W hW hJ _ hY h0 =>
  avals1_in n hn l Bs n₀ p c zs hz J Jx hY W hJ ((hW.cell (p := ⟨Bs, 0, none⟩) hBs).trans hc) (hR.below (hW.mono hn₀) hp) (Nat.le_trans hn₀ hW.size) hp h0

theorem infoAu : (Tryz.prog.info? 45).map (fun i => (i.zero, i.size, i.bytes)) = some (some (auV fun _ => 0), 16, 16) := by kernel_rfl
theorem auC_at {w : World} {b : Nat} {x : Nat → Int} {t : TypeId} (h : w.heap[b]? = some (.cells (auC x).toArray t (0, 0))) : ∀ j u, (auC x)[j]? = some u → w.cell? ((⟨b, 0, none⟩ : Addr).add j) = some u := fun j u hj => by
  have h2 : AtL w b 0 (auC x) := AtL_block h rfl
  have := h2.cell hj
  have e : (⟨b, 0, none⟩ : Addr).add j = ⟨b, 0 + j, none⟩ := by unfold Addr.add; simp; omega
  rw [e]; exact this
set_option maxRecDepth 100000 in
set_option maxHeartbeats 4000000 in
theorem aapp_in (n : Nat) (hn : 4 ≤ n) (Bs : Nat) (p : Option Addr) (c : Nat) (zs : List (Nat → Int)) (hz : zs.length ≤ 1000000) (w : World) (hBs : Bs < w.heap.size)
    (hc : w.cell? ⟨Bs, 0, none⟩ = some (.slice p zs.length c)) (hR : RowA auC 16 w p zs) (hp : ∀ g o, p = some ⟨g, o, none⟩ → g < w.heap.size) :
    CallsIn Fence.wide n Tryz.prog 129 #[.slice none 0 0, .func (.func 105) #[] #[.pointer (some ⟨Bs, 0, none⟩)]] w fun e W' =>
      ∃ v, e = .returned v ∧ W'.ownsRow w.heap.size 45 16 v zs.length (zs.flatMap auC) ∧ Below w.heap.size w W' := by
  have h1 : 1 ≤ n := by omega
  obtain ⟨i0, hi, hz0, hz1, hz2⟩ := info_parts infoAu
  refine callsIn_of_wp_marks Tryz.func129 rfl trivial ?_ rfl
  simp only [Tryz.ntmps129, List.size_toArray, List.length_cons, List.length_nil, Nat.reduceAdd, Nat.reduceSub, Array.replicate_succ, Array.replicate_zero, List.push_toArray, List.append_toArray, List.nil_append, List.cons_append]
  gi_wp2
  have bO := Boxed.new w 28 (.slice none 0 0)
  have hB0 : Below w.heap.size w (w.alloc (.cells #[.slice none 0 0] 28)) := (Below.refl _ w).alloc (Nat.le_refl _) _
  refine wpIn_rangeFunc_ownH rfl h1 (gf := 105) (lb := #[.pointer (some ⟨Bs, 0, none⟩)]) rfl trivial (enters_of Tryz.func105 (by kernel_rfl) rfl)
    (avals_stops (n - 1) (by omega) Bs w.heap.size p c zs hz (w.alloc (.cells #[.slice none 0 0] 28)) (by simp; omega) (by simp) ((hB0.cell (p := ⟨Bs, 0, none⟩) hBs).trans hc) (hR.below hB0 hp) hp) belowK_t (belowK_b (by simp)) (Below.refl _ _) (fun _ => rfl)
    (fun pre W => (∃ v, Boxed W w.heap.size 28 v ∧ W.ownsRow w.heap.size 45 16 v pre.length (pre.flatMap auC) ∧ True) ∧ Below w.heap.size w W)
    (fun _ _ _ => False)
    (OwnFrom.and (Own.from (holdsRow_own w.heap.size w.heap.size 28 45 16 (fun pre : List (Nat → Int) => pre.length) (fun pre => pre.flatMap auC) (fun _ _ => True)) _) (ownFrom_below (Nat.le_refl _) (by simp)))
    (fun _ _ _ _ _ hs _ _ => hs)
    ⟨⟨_, bO, World.ownsRow_nil _ _ _ _, trivial⟩, hB0⟩
    (fun x a' W => ∃ Bx, w.heap.size < Bx ∧ W.heap[Bx]? = some (.cells (auC x).toArray 45 (0, 0)) ∧ a' = { tmps := #[.slice none 0 0, .func (.func 105) #[] #[.pointer (some ⟨Bs, 0, none⟩)], .pointer (some ⟨w.heap.size, 0, none⟩), undef, .slice none 0 0, .pointer (some ⟨Bx, 0, none⟩), .func (.func 105) #[] #[.pointer (some ⟨Bs, 0, none⟩)], auV x, undef, undef, undef, undef, undef], defers := [] })
    (fun x a' s A B row hs hg hr => by
      obtain ⟨Bx, h1, h2, h3⟩ := hs
      refine ⟨Bx, h1, (hg.block Bx (block_lt h2) (fun e => ?_)).trans h2, h3⟩
      obtain ⟨_, o, ho, hc⟩ := hr Bx e.symm
      rw [h2] at ho; cases ho; cases hc) ?assign ?body ?done ?stop
  case assign =>
    rintro l pre x W K ⟨⟨v, hv, hrow, _⟩, hB⟩ hK
    generalize hT : Array.foldl _ _ _ = T
    have hT2 : T = #[.slice none 0 0, .func (.func 105) #[] #[.pointer (some ⟨Bs, 0, none⟩)], .pointer (some ⟨w.heap.size, 0, none⟩), undef, .slice none 0 0, undef, .func (.func 105) #[] #[.pointer (some ⟨Bs, 0, none⟩)], auV x, undef, undef, undef, undef, undef] := by rw [← hT]; simp
    subst hT2
    clear hT
    refine wpIn_region_list (wi_alloc (t := 45) (z := auV fun _ => 0) rfl rfl (by kernel_rfl) (wi_store (t := 45) (k := 16) (v := auV x) rfl rfl rfl rfl (by kernel_rfl) rfl rfl (WrF_block (block_alloc W _) rfl) fun w2 hp2 => ?_))
    have hb2 := hp2.full (block_alloc W _) rfl
    have hk2 : K0 W w2 := put_k0 ((Kp.refl _ _).alloc _) hp2 (Nat.le_refl _)
    have hg2 : W.grownBy w2 none := ⟨hk2.os, hk2.tape, hk2.output, hk2.size, fun i hi _ => hk2.block i hi (fun h => h)⟩
    exact hK _ _ (KeepsFrom.of_grownBy hg2 (fun j e => by cases e)) ⟨hk2.os, hk2.tape, hk2.output, hk2.size, fun i hi => hk2.block i (Nat.lt_of_lt_of_le hi hB.size) (fun h => h)⟩ ⟨⟨v, hv.kept hg2 (by simp), hrow.kept hg2 (Classical.em _), trivial⟩, hB.grown hg2 hB.size (fun k e => by cases e)⟩ ⟨W.heap.size, hv.lt, hb2, rfl⟩
  case body =>
    rintro l pre x a' W hl hr ⟨⟨v, hv, hrow, _⟩, hB⟩ ⟨Bx, hBx, hbx, rfl⟩ hlt
    have hcv := hv.cell
    gi_wp2_with (first
      | (refine wi_load (t := 45) (k := 16) (agg := true) (cs := auC x) rfl rfl rfl (by kernel_rfl) rfl (AtL_block hbx rfl) (v := auV x) rfl ?_)
      | (refine wi_slice (t := 28) (len := 1) (e := 45) (cells := (auC x).toArray) rfl rfl (by kernel_rfl) ?_)
      | (gi_at_builtin; refine wpListIn_append_own _ rfl _ _ 28 rfl w.heap.size 45 i0 (auV fun _ => 0) 16 16 Tryz.underlying28 hi hz0 hz1 hz2 rfl (by decide) _ _ _ rfl (hrow.alloc _) ⟨W.heap.size, 0, none⟩ 1 1 (auC x) rfl rfl (auC_at (block_alloc W _)) (arr_one x 16) (by unfold maxLen; omega) (by omega) (by have := hB.size; simp; omega) ?_; intro v' w1 hown' hgrow _; obtain ⟨g', cap', rfl⟩ := ownsRow_succ hown'; obtain ⟨hv1, hv2, hr2, hk2, hb2⟩ := hv.appended (by decide) hrow hB.size (Nat.le_refl _) hown' hgrow; have hc1 := hv1.cell; have hf1 := hv1.frozen)
      | gi_in)
    have e1 : (pre ++ [x]).flatMap auC = pre.flatMap auC ++ auC x := by rw [List.flatMap_append]; simp [List.flatMap_cons]
    have e2 : (pre ++ [x]).length = pre.length + 1 := by simp
    exact ⟨hk2.from _, hb2, ⟨_, hv2, by rw [e1, e2]; exact hr2⟩, hB.trans hb2⟩
  case done =>
    rintro D ys W hD rfl ⟨⟨v, hv, hrow, _⟩, hB⟩ hK
    have hc := hv.cell
    gi_wp2
    refine ⟨by simp, .inl ⟨_, _, rfl, run_takeDeferred hK, ?_⟩⟩
    exact ⟨_, results_tmp rfl _ _ _, v, rfl, ownsRow_putObj hrow _ hK rfl, hB.trans (belowK_b (w := w) (Nat.le_refl _) W D _ _ (by simp at hD; omega) hK rfl rfl)⟩
  case stop =>
    rintro D c pre W _ _ h _
    exact h.elim

end Go.Proofs.YtfacflbmlfbeeaaGreatDoor

/- Rows and blocks of different types are apart. Generic: no program, no condition. -/
namespace Go.Proofs.YtfacflbmlfbeeaaGreatDoor
open Go.RowKit

theorem own_not {w : World} {base : Nat} {e t : TypeId} {size : Nat} {v : Value} {n : Nat} {xs : List Value} (h : w.ownsRow base e size v n xs) {k : Nat} {c : Array Value} {f : Nat × Nat} (hk : w.heap[k]? = some (.cells c t f)) (hne : (t == e) = false) : ¬ v.ownBlock = some k := fun he => by
  obtain ⟨c', h1⟩ := own_type h he
  rw [hk] at h1
  simp at h1
  rw [h1.2.1] at hne
  simp at hne
theorem blk_ne {w : World} {a b : Nat} {c c' : Array Value} {t t' : TypeId} {f f' : Nat × Nat} (h : w.heap[a]? = some (.cells c t f)) (h' : w.heap[b]? = some (.cells c' t' f')) (hne : (t == t') = false) : a ≠ b := fun e => by
  subst e
  rw [h] at h'
  simp at h'
  rw [h'.2.1] at hne
  simp at hne

end Go.Proofs.YtfacflbmlfbeeaaGreatDoor

/- Rows that a slice owns: an element is written. Generic: no program, no condition. -/
namespace Go.Proofs.YtfacflbmlfbeeaaGreatDoor
open Go.RowKit Go.Maps

theorem putL_get : ∀ (vs c : List Value) (o j : Nat), o + vs.length ≤ c.length → (putL c o vs)[j]? = if o ≤ j ∧ j < o + vs.length then vs[j - o]? else c[j]?
  | [], c, o, j, _ => by
    rw [if_neg (by simp only [List.length_nil]; omega)]; rfl
  | v :: r, c, o, j, h => by
    simp only [putL]
    rw [putL_get r (c.set o v) (o + 1) j (by simp at h ⊢; omega)]
    by_cases h1 : o + 1 ≤ j ∧ j < o + 1 + r.length
    · rw [if_pos h1, if_pos (by simp; omega), show j - o = (j - (o + 1)) + 1 by omega]; rfl
    · rw [if_neg h1, List.getElem?_set]
      by_cases h2 : o = j
      · subst h2
        have h3 : o < c.length := by rw [List.length_cons] at h; omega
        rw [if_pos rfl, if_pos h3, if_pos (by rw [List.length_cons]; omega), Nat.sub_self]
        rfl
      · rw [if_neg h2, if_neg (by rw [List.length_cons]; omega)]
/-- An element of an own row is written. -/
theorem own_set {α : Type} {f : α → List Value} {L : Nat} {w w1 : World} {base n c g k : Nat} {e : TypeId} {l : List α} {y : α} (h : w.ownsRow base e L (.slice (some ⟨g, 0, none⟩) n c) n (l.flatMap f)) (hn : n = l.length) (hl : ∀ y, (f y).length = L) (h0 : 0 < L) (hk : k < l.length) (hp : PutB w g (0 + k * L) (f y) w1) :
    w1.ownsRow base e L (.slice (some ⟨g, 0, none⟩) n c) n ((l.set k y).flatMap f) := by
  subst hn
  have hlen := h.1
  rcases h.2 with ⟨hv, _⟩ | ⟨g', cap, cur, hv, hb, hg, h4, h5, h6, h7⟩
  · simp at hv
  simp only [Value.slice.injEq, true_and, Option.some.injEq, Addr.mk.injEq, and_true] at hv
  obtain ⟨rfl, rfl⟩ := hv
  have hm : (k + 1) * L ≤ l.length * L := Nat.mul_le_mul_right _ hk
  have hm2 : l.length * L ≤ c * L := Nat.mul_le_mul_right _ h4
  rw [Nat.succ_mul] at hm
  have hfl : ((l.set k y).flatMap f).length = l.length * L := by rw [len_flat f L _ (fun z _ => hl z), List.length_set]
  refine ⟨hfl, .inr ⟨g, c, _, rfl, hb, hp.block hg, h4, h5, by simp [putL_len, h6], ?_⟩⟩
  show (putL cur.toList (0 + k * L) (f y)).take (l.length * L) = _
  apply List.ext_getElem?
  intro j
  rw [List.getElem?_take]
  rcases Nat.lt_or_ge j (l.length * L) with hj | hj
  · rw [if_pos hj, putL_get _ _ _ _ (by rw [hl y]; simp [h6]; omega), hl y]
    have hdiv : j / L < l.length := Nat.div_lt_of_lt_mul (by rw [Nat.mul_comm]; exact hj)
    have hmod : j % L < L := Nat.mod_lt _ h0
    have hj2 : j / L * L + j % L = j := by rw [Nat.mul_comm]; exact Nat.div_add_mod j L
    by_cases hin : 0 + k * L ≤ j ∧ j < 0 + k * L + L
    · have hk1 : j / L = k := by
        have h1 : k ≤ j / L := (Nat.le_div_iff_mul_le h0).2 (by omega)
        have h2 : j / L < k + 1 := (Nat.div_lt_iff_lt_mul h0).2 (by rw [Nat.succ_mul]; omega)
        omega
      rw [if_pos hin]
      have := flat_get f L (l.set k y) k y (j % L) (fun z _ => hl z) (by rw [List.getElem?_set]; simp [hk]) hmod
      rw [show k * L + j % L = j by rw [← hk1]; exact hj2] at this
      rw [this]
      congr 1
      rw [hk1] at hj2
      omega
    · rw [if_neg hin]
      have hne : ¬ k = j / L := fun e => hin (by rw [e]; omega)
      obtain ⟨z, hz⟩ : ∃ z, l[j / L]? = some z := ⟨_, List.getElem?_eq_getElem hdiv⟩
      have h1 := flat_get f L (l.set k y) (j / L) z (j % L) (fun z _ => hl z) (by rw [List.getElem?_set, if_neg hne]; exact hz) hmod
      have h2 := flat_get f L l (j / L) z (j % L) (fun z _ => hl z) hz hmod
      rw [hj2] at h1 h2
      rw [h1, ← h2, ← h7, List.getElem?_take, if_pos hj]
  · rw [if_neg (by omega), List.getElem?_eq_none (by omega)]
theorem own_wr {w : World} {base n c L k : Nat} {p : Option Addr} {e : TypeId} {xs : List Value} (h : w.ownsRow base e L (.slice p n c) n xs) (hk : k < n) : ∃ g, p = some ⟨g, 0, none⟩ ∧ WrL w g (0 + k * L) L := by
  rcases h.2 with ⟨_, h0⟩ | ⟨g, cap, cur, hv, hb, hg, h4, h5, h6, h7⟩
  · omega
  simp only [Value.slice.injEq, true_and] at hv
  obtain ⟨rfl, rfl⟩ := hv
  have hm : (k + 1) * L ≤ n * L := Nat.mul_le_mul_right _ hk
  have hm2 : n * L ≤ c * L := Nat.mul_le_mul_right _ h4
  rw [Nat.succ_mul] at hm
  exact ⟨g, rfl, WrL_block hg (by omega)⟩

end Go.Proofs.YtfacflbmlfbeeaaGreatDoor

/- The formulas of functions by the symbolic evaluator, and that each gives the call's contract. Written by a program (gen.py). No condition. -/
namespace Go.Proofs.YtfacflbmlfbeeaaGreatDoor
set_option maxRecDepth 100000
set_option linter.unusedVariables false

def VC_isMin (now : Int) (w : World) (R : Ending → World → Prop) : Prop :=
 R (Ending.returned (Value.bool (decide (now ≥ 0) && decide (now ≤ 105190559)))) w
theorem vc_isMin (now : Int) (w : World) (R : Ending → World → Prop) (h : VC_isMin now w R) : Calls Tryz.prog 86 ([Value.int
    IntKind.i64 now] : List Value).toArray w R := by
  have e : execR2 { P := Tryz.prog, loops := [], pur := pur1, tails := [], joins := [], boxes := [] } Tryz.f86.results.toList R (Tryz.f86.body.getD .skip) (initF [Value.int
    IntKind.i64
    now] (Tryz.f86.ntmps - ([Value.int IntKind.i64 now] : List Value).length)) w = VC_isMin now w R := by kernel_rfl
  have hb : Tryz.f86.body = some (Tryz.f86.body.getD .skip) := by kernel_rfl
  exact calls_of_exec2' (P := Tryz.prog) (fn := Tryz.f86) (c := Tryz.f86.body.getD .skip) (args := [Value.int
    IntKind.i64 now]) (w := w) (R := R) pur1_ok Tryz.func86 hb e h

def VC_begin_ (x : Option Addr) (now : Int) (w : World) (R : Ending → World → Prop) : Prop :=
 bsp x.isNone (R (Ending.returned (Value.int IntKind.i64 1)) w)
 (CallsS Tryz.prog 86 #[Value.int IntKind.i64 now] w fun (e : Ending) (w' : World) =>
 ∃ (x : Bool),
 e = Ending.returned (Value.bool x) ∧
 KeptL [] w w' ∧
 bsp (!x) (R (Ending.returned (Value.int IntKind.i64 2)) w') (R (Ending.returned (Value.int IntKind.i64 0)) w'))
theorem vc_begin_ (x : Option Addr) (now : Int) (w : World) (R : Ending → World → Prop) (h : VC_begin_ x now w R) : Calls Tryz.prog 48 ([Value.pointer
    x,
  Value.int IntKind.i64 now] : List Value).toArray w R := by
  have e : execR2 { P := Tryz.prog, loops := [], pur := pur1, tails := [], joins := [], boxes := [] } Tryz.f48.results.toList R (Tryz.f48.body.getD .skip) (initF [Value.pointer
    x,
  Value.int IntKind.i64
    now] (Tryz.f48.ntmps - ([Value.pointer x,
  Value.int IntKind.i64 now] : List Value).length)) w = VC_begin_ x now w R := by kernel_rfl
  have hb : Tryz.f48.body = some (Tryz.f48.body.getD .skip) := by kernel_rfl
  exact calls_of_exec2' (P := Tryz.prog) (fn := Tryz.f48) (c := Tryz.f48.body.getD .skip) (args := [Value.pointer x,
  Value.int IntKind.i64 now]) (w := w) (R := R) pur1_ok Tryz.func48 hb e h

def VC_inEff (le : Bool) (ho : Nat → Int) (si : Int) (now : Int) (w : World) (R : Ending → World → Prop) : Prop :=
 ∀ (n : Nat),
 ∃ (x : Int),
 gimp le
 (∀ (W : World),
 Loc w.heap.size
 [Blk.mk n 105
 ([Value.bool le] ++ arrI IntKind.u8 ho 16 0 ++ [Value.int IntKind.i64 si])
 2]
 w W →
 W.cell? (Addr.mk n (0 + 17) none) = some (Value.int IntKind.i64 x)) ∧
 ∃ (x_1 : Int),
 gimp (le && decide (x ≤ now))
 (∀ (W : World),
 Loc w.heap.size
 [Blk.mk n 105
 ([Value.bool le] ++ arrI IntKind.u8 ho 16 0 ++ [Value.int IntKind.i64 si])
 2]
 w W →
 W.cell? (Addr.mk n (0 + 17) none) = some (Value.int IntKind.i64 x_1)) ∧
 ∀ (W : World),
 Loc w.heap.size
 [Blk.mk n 105
 ([Value.bool le] ++ arrI IntKind.u8 ho 16 0 ++ [Value.int IntKind.i64 si])
 2]
 w W →
 R (Ending.returned (Value.bool (le && decide (x ≤ now) && decide (IntKind.i64.wrap (now - x_1) < 60)))) W
theorem vc_inEff (le : Bool) (ho : Nat → Int) (si : Int) (now : Int) (w : World) (R : Ending → World → Prop) (h : VC_inEff le ho si now w R) : Calls Tryz.prog 81 ([Value.agg
    ([Value.bool le] ++ (arrI IntKind.u8 ho 16 0 ++ [Value.int IntKind.i64 si])).toArray,
  Value.int IntKind.i64 now] : List Value).toArray w R := by
  have e : execR2 { P := Tryz.prog, loops := [], pur := pur1, tails := [], joins := [], boxes := [] } Tryz.f81.results.toList R (Tryz.f81.body.getD .skip) (initF [Value.agg
    ([Value.bool le] ++ (arrI IntKind.u8 ho 16 0 ++ [Value.int IntKind.i64 si])).toArray,
  Value.int IntKind.i64
    now] (Tryz.f81.ntmps - ([Value.agg
    ([Value.bool le] ++ (arrI IntKind.u8 ho 16 0 ++ [Value.int IntKind.i64 si])).toArray,
  Value.int IntKind.i64 now] : List Value).length)) w = VC_inEff le ho si now w R := by kernel_rfl
  have hb : Tryz.f81.body = some (Tryz.f81.body.getD .skip) := by kernel_rfl
  exact calls_of_exec2' (P := Tryz.prog) (fn := Tryz.f81) (c := Tryz.f81.body.getD .skip) (args := [Value.agg
    ([Value.bool le] ++ (arrI IntKind.u8 ho 16 0 ++ [Value.int IntKind.i64 si])).toArray,
  Value.int IntKind.i64 now]) (w := w) (R := R) pur1_ok Tryz.func81 hb e h

def VC_blocked (id : Nat → Int) (mo : Nat → Int) (g : ByteArray) (t : ByteArray) (r : Int) (st : Int) (de : Int) (rs : ByteArray) (le : Bool) (ho : Nat → Int) (si : Int) (a : Nat → Int) (now : Int) (w : World) (R : Ending → World → Prop) : Prop :=
 ∀ (n n_1 : Nat) (W : World),
 Loc w.heap.size
 [Blk.mk n_1 45
 (arrI IntKind.u8 a 16 0)
 2,
 Blk.mk n 107
 (arrI IntKind.u8 id 32 0 ++ ([Value.string g, Value.string t,
 Value.int IntKind.i64 r, Value.int IntKind.i64 st] ++ arrI IntKind.u8 mo 16 0 ++ ([Value.int IntKind.i64 de, Value.string rs,
 Value.bool le] ++ arrI IntKind.u8 ho 16 0 ++ [Value.int IntKind.i64 si])))
 2]
 w W →
 CallsS Tryz.prog 81
 #[Value.agg
 ([Value.bool le] ++ arrI IntKind.u8 ho 16 0 ++ [Value.int IntKind.i64 si]).toArray,
 Value.int IntKind.i64 now]
 W fun (e : Ending) (w' : World) =>
 ∃ (x : Bool),
 e = Ending.returned (Value.bool x) ∧
 KeptL [n_1, n] W w' ∧
 ∃ (f : Nat → Int),
 gimp x
 (AtL w' n (0 + 55)
 (arrI IntKind.u8 f 16 0)) ∧
 ∃ (r : Bool),
 gimp x
 (EqP Tryz.prog 45
 (Value.agg
 (arrI IntKind.u8 f 16 0).toArray)
 (Value.agg
 (arrI IntKind.u8 a 16 0).toArray)
 r) ∧
 R (Ending.returned (Value.bool (x && !r))) w'
theorem vc_blocked (id : Nat → Int) (mo : Nat → Int) (g : ByteArray) (t : ByteArray) (r : Int) (st : Int) (de : Int) (rs : ByteArray) (le : Bool) (ho : Nat → Int) (si : Int) (a : Nat → Int) (now : Int) (w : World) (R : Ending → World → Prop) (h : VC_blocked id mo g t r st de rs le ho si a now w R) : Calls Tryz.prog 77 ([Value.agg
    (arrI IntKind.u8 id 32 0 ++
        ([Value.string g, Value.string t, Value.int IntKind.i64 r, Value.int IntKind.i64 st] ++
          (arrI IntKind.u8 mo 16 0 ++
            ([Value.int IntKind.i64 de, Value.string rs, Value.bool le] ++
              (arrI IntKind.u8 ho 16 0 ++ [Value.int IntKind.i64 si]))))).toArray,
  Value.agg (arrI IntKind.u8 a 16 0).toArray, Value.int IntKind.i64 now] : List Value).toArray w R := by
  have e : execR2 { P := Tryz.prog, loops := [], pur := pur1, tails := [], joins := [], boxes := [] } Tryz.f77.results.toList R (Tryz.f77.body.getD .skip) (initF [Value.agg
    (arrI IntKind.u8 id 32 0 ++
        ([Value.string g, Value.string t, Value.int IntKind.i64 r, Value.int IntKind.i64 st] ++
          (arrI IntKind.u8 mo 16 0 ++
            ([Value.int IntKind.i64 de, Value.string rs, Value.bool le] ++
              (arrI IntKind.u8 ho 16 0 ++ [Value.int IntKind.i64 si]))))).toArray,
  Value.agg (arrI IntKind.u8 a 16 0).toArray,
  Value.int IntKind.i64
    now] (Tryz.f77.ntmps - ([Value.agg
    (arrI IntKind.u8 id 32 0 ++
        ([Value.string g, Value.string t, Value.int IntKind.i64 r, Value.int IntKind.i64 st] ++
          (arrI IntKind.u8 mo 16 0 ++
            ([Value.int IntKind.i64 de, Value.string rs, Value.bool le] ++
              (arrI IntKind.u8 ho 16 0 ++ [Value.int IntKind.i64 si]))))).toArray,
  Value.agg (arrI IntKind.u8 a 16 0).toArray,
  Value.int IntKind.i64
    now] : List Value).length)) w = VC_blocked id mo g t r st de rs le ho si a now w R := by kernel_rfl
  have hb : Tryz.f77.body = some (Tryz.f77.body.getD .skip) := by kernel_rfl
  exact calls_of_exec2' (P := Tryz.prog) (fn := Tryz.f77) (c := Tryz.f77.body.getD .skip) (args := [Value.agg
    (arrI IntKind.u8 id 32 0 ++
        ([Value.string g, Value.string t, Value.int IntKind.i64 r, Value.int IntKind.i64 st] ++
          (arrI IntKind.u8 mo 16 0 ++
            ([Value.int IntKind.i64 de, Value.string rs, Value.bool le] ++
              (arrI IntKind.u8 ho 16 0 ++ [Value.int IntKind.i64 si]))))).toArray,
  Value.agg (arrI IntKind.u8 a 16 0).toArray, Value.int IntKind.i64 now]) (w := w) (R := R) pur1_ok Tryz.func77 hb e h

def VC_acmp (a : Array Value) (b : Array Value) (w : World) (R : Ending → World → Prop) : Prop :=
 ∀ (n : Nat) (w1 : World),
 NewB w (Obj.cells a 45) n w1 →
 ∀ (n_1 : Nat) (w1_1 : World),
 NewB w1 (Obj.cells b 45) n_1 w1_1 →
 CallsS Tryz.prog 106 #[Value.slice (some (Addr.mk n 0 none)) 16 16, Value.slice (some (Addr.mk n_1 0 none)) 16 16]
 w1_1.drew fun (e : Ending) (w' : World) =>
 ∃ (x : Int), e = Ending.returned (Value.int IntKind.i64 x) ∧ R (Ending.returned (Value.int IntKind.i64 x)) w'
theorem vc_acmp (a : Array Value) (b : Array Value) (w : World) (R : Ending → World → Prop) (h : VC_acmp a b w R) : Calls Tryz.prog 73 ([Value.agg
    a,
  Value.agg b] : List Value).toArray w R := by
  have e : execR { P := Tryz.prog, loops := [], pur := pur1, tails := [(1, 2)], joins := [], boxes := [] } Tryz.f73.results.toList R (Tryz.f73.body.getD .skip) (initF [Value.agg
    a,
  Value.agg b] (Tryz.f73.ntmps - ([Value.agg a, Value.agg b] : List Value).length)) w = VC_acmp a b w R := by kernel_rfl
  have hb : Tryz.f73.body = some (Tryz.f73.body.getD .skip) := by kernel_rfl
  exact calls_of_exec' (P := Tryz.prog) (fn := Tryz.f73) (c := Tryz.f73.body.getD .skip) (args := [Value.agg a,
  Value.agg b]) (w := w) (R := R) pur1_ok Tryz.func73 hb e h

def VC_mdcmp (a : Array Value) (b : Array Value) (w : World) (R : Ending → World → Prop) : Prop :=
 ∀ (n : Nat) (w1 : World),
 NewB w (Obj.cells a 48) n w1 →
 ∀ (n_1 : Nat) (w1_1 : World),
 NewB w1 (Obj.cells b 48) n_1 w1_1 →
 ∃ (S : World → Prop),
 S w1_1.drew ∧
 ∃ (x : Int),
 (∀ (w' : World), S w' → w'.cell? (Addr.mk n (0 + 34) none) = some (Value.int IntKind.i64 x)) ∧
 ∃ (x_1 : Int),
 (∀ (w' : World), S w' → w'.cell? (Addr.mk n_1 (0 + 34) none) = some (Value.int IntKind.i64 x_1)) ∧
 ∃ (f : Nat → Int),
 (∀ (w' : World),
 S w' →
 AtL w' n 0
 (arrI IntKind.u8 f 32 0)) ∧
 ∃ (f_1 : Nat → Int),
 (∀ (w' : World),
 S w' →
 AtL w' n_1 0
 (arrI IntKind.u8 f_1 32 0)) ∧
 ∃ (x_2 : ByteArray),
 (∀ (w' : World), S w' → w'.cell? (Addr.mk n (0 + 32) none) = some (Value.string x_2)) ∧
 ∃ (x_3 : ByteArray),
 (∀ (w' : World), S w' → w'.cell? (Addr.mk n_1 (0 + 32) none) = some (Value.string x_3)) ∧
 CallsS Tryz.prog 100 #[Value.int IntKind.i64 x, Value.int IntKind.i64 x_1] w1_1.drew
 fun (e : Ending) (w' : World) =>
 ∃ (x : Int),
 e = Ending.returned (Value.int IntKind.i64 x) ∧
 S w' ∧
 CallsS Tryz.prog 101
 #[Value.agg
 (arrI IntKind.u8 f 32 0).toArray,
 Value.agg
 (arrI IntKind.u8 f_1 32 0).toArray]
 w' fun (e : Ending) (w' : World) =>
 ∃ (x_4 : Int),
 e = Ending.returned (Value.int IntKind.i64 x_4) ∧
 S w' ∧
 CallsS Tryz.prog 102 #[Value.string x_2, Value.string x_3] w' fun (e : Ending) (w' : World) =>
 ∃ (x_5 : Int),
 e = Ending.returned (Value.int IntKind.i64 x_5) ∧
 ∀ (n : Nat) (w1 : World),
 NewB w'
 (Obj.cells
 #[Value.int IntKind.i64 x, Value.int IntKind.i64 x_4, Value.int IntKind.i64 x_5] 3)
 n w1 →
 CallsS Tryz.prog 99 #[Value.slice (some (Addr.mk n 0 none)) 3 3] w1
 fun (e : Ending) (w' : World) =>
 ∃ (x : Int),
 e = Ending.returned (Value.int IntKind.i64 x) ∧
 R (Ending.returned (Value.int IntKind.i64 x)) w'
theorem vc_mdcmp (a : Array Value) (b : Array Value) (w : World) (R : Ending → World → Prop) (h : VC_mdcmp a b w R) : Calls Tryz.prog 68 ([Value.agg
    a,
  Value.agg b] : List Value).toArray w R := by
  have e : execR { P := Tryz.prog, loops := [], pur := pur1, tails := [(1, 4)], joins := [], boxes := [] } Tryz.f68.results.toList R (Tryz.f68.body.getD .skip) (initF [Value.agg
    a,
  Value.agg
    b] (Tryz.f68.ntmps - ([Value.agg a, Value.agg b] : List Value).length)) w = VC_mdcmp a b w R := by kernel_rfl
  have hb : Tryz.f68.body = some (Tryz.f68.body.getD .skip) := by kernel_rfl
  exact calls_of_exec' (P := Tryz.prog) (fn := Tryz.f68) (c := Tryz.f68.body.getD .skip) (args := [Value.agg a,
  Value.agg b]) (w := w) (R := R) pur1_ok Tryz.func68 hb e h

end Go.Proofs.YtfacflbmlfbeeaaGreatDoor
