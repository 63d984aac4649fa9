/- Chapter 21: the contracts of groupname.Check and of the reference's Check of a name. The library's variable MaxLen holds a number. -/
import Derived.Test.YtgmmoghagpmpfaaGreatDoorZ05
import Derived.Test.YtgmmoghagpmpfaaGreatDoorZ03
import Derived.Lib.Bytealg
import Derived.Sort.Statements
import Derived.Maps.Keyed
import Derived.Test.YtgmmoghagpmpfaaGreatDoorZ04
import Derived.Lib.ItoaLen
import Derived.Shelf.Strings.BuilderX
import Derived.Lib.Builder
import Derived.Lib.AppendStr
import Derived.Lib.UnsafeStr
import Derived.WalkKit
import Derived.Laws.Externs
import Derived.Shelf.RegionOpenPlain
import Derived.Lib.OthersKept
import Derived.Lib.FrozenHead
namespace Go.Proofs.YtgmmoghagpmpfaaGreatDoor
open Go.RowKit
/-- The library's variable MaxLen holds a number. -/
def GW (w : World) : Prop := ∃ m, w.cell? ⟨0, 0, none⟩ = some (.int .i64 m)
theorem GW.kp {M : Nat → Prop} {w w' : World} (h : GW w) (hk : Kp M w w') (hm : ¬ M 0) : GW w' := by
  obtain ⟨m, h⟩ := h; exact ⟨m, hk.cell' h hm⟩
theorem byte_cell {w : World} {g : Nat} {s : ByteArray} {c : Nat} {t : TypeId} {fz : Nat × Nat} (h : w.heap[g]? = some (.cells (bytesRow s c) t fz)) {k : Nat} (hk : k < s.size) : w.cell? ⟨g, 0 + k, none⟩ = some (.int .u8 (at8 s k)) := by
  rw [cell_block h, Nat.zero_add, bytesRow_at s c k hk, at8_lt s k hk]
  rfl
theorem T0.at8_extract (s : ByteArray) (a b j : Nat) (h : a + j < b) (hb : b ≤ s.size) : at8 (s.extract a b) j = at8 s (a + j) := Go.Proofs.YtgmmoghagpmpfaaGreatDoor.at8_extract s a b j h hb

theorem nn_is {g : Bool} {p : Option Addr} {b o : Nat} {K : Nat → Nat → Prop} (hp : p = some ⟨b, o, none⟩) (h : K b o) : nn g p K := by subst hp; exact h
theorem nneg {a : Nat} (h : a ≤ 4611686018427387904) : ((9223372036854775807 : Int) - (a : Int)).NonNeg :=
  Int.nonneg_def.2 ⟨9223372036854775807 - a, by omega⟩
theorem str_get {w : World} {p : Option Addr} {zs : List ByteArray} (h : StrP w p zs) {k : Nat} (hk : k < zs.length) : ∃ z b o, zs[k]? = some z ∧ p = some ⟨b, o, none⟩ ∧ w.cell? ⟨b, o + k, none⟩ = some (.string z) := h.get hk
theorem bcon_any (s : ByteArray) (b c : Nat) (f : FuncId) (fa fb : Array Value) (g : Int → Bool) (w : World) (hS : ∀ k, k < s.size → w.cell? ⟨b, 0 + k, none⟩ = some (.int .u8 (at8 s k))) (hs : s.size ≤ 1073741824) (hok : okFn Tryz.prog f = true)
    (hF : ∀ x, ∀ w1, K0 w w1 → Calls Tryz.prog f (appA fa [.int .u8 x] fb) w1 fun e w2 => e = .returned (.bool (g x)) ∧ K0 w1 w2) :
    Calls Tryz.prog 112 #[.slice (some ⟨b, 0, none⟩) s.size c, .func (.func f) fa fb] w fun e w' => e = .returned (.bool ((List.range s.size).any fun i => g (at8 s i))) ∧ K0 w w' := by
  have hidx : Calls Tryz.prog 129 #[.slice (some ⟨b, 0, none⟩) s.size c, .func (.func f) fa fb] w fun e w' => (∃ x : Int, e = .returned (.int .i64 x) ∧ decide (x ≥ 0) = (List.range s.size).any fun i => g (at8 s i)) ∧ K0 w w' := by
    refine vc_bidx (some ⟨b, 0, none⟩) s.size c f fa fb w _ ?_
    refine ⟨fun vs w' => ∃ i : Nat, vs = [.int .i64 (i : Int)] ∧ i ≤ s.size ∧ (∀ j, j < i → g (at8 s j) = false) ∧ K0 w w',
      fun vs _ => (match vs with | .int _ x :: _ => s.size - x.toNat | _ => 0), ⟨0, rfl, by omega, (fun j h => by omega), .refl _ _⟩, ?_⟩
    rintro x w1 ⟨i, hv, hi, hall, k1⟩
    simp only [List.cons.injEq, Value.int.injEq, true_and, and_true] at hv
    subst hv
    refine bsp_intro (fun hlt => ?_) (fun hge => ?_)
    · have hlt : i < s.size := by simp at hlt; omega
      rw [Int.toNat_natCast]
      refine nn_is rfl ⟨⟨by omega, by omega⟩, at8 s i, k1.cell' (hS i hlt) (fun h => h), f, fa, fb, rfl, hok, ⟨(hF (at8 s i) w1 k1).mono fun e w2 ⟨he, k2⟩ => ⟨_, he, .of_k0 k2, bsp_intro (fun hg => ?_) (fun hg => ?_)⟩⟩⟩
      · refine ⟨⟨i, rfl, ?_⟩, k1.trans k2⟩
        have : ((List.range s.size).any fun i => g (at8 s i)) = true := List.any_eq_true.2 ⟨i, List.mem_range.2 hlt, hg⟩
        rw [this]; simp
      · refine ⟨⟨i + 1, by rw [inc64 (by omega)], hlt, fun j hj => ?_, k1.trans k2⟩, by rw [inc64 (by omega)]; simp only [Int.toNat_natCast]; omega⟩
        by_cases e : j = i
        · rw [e]; exact hg
        · exact hall j (by omega)
    · have hi : i = s.size := by simp at hge; omega
      subst hi
      refine ⟨⟨-1, rfl, ?_⟩, k1⟩
      have : ((List.range s.size).any fun i => g (at8 s i)) = false := List.any_eq_false.2 fun j hj => by simpa using hall j (List.mem_range.1 hj)
      rw [this]; rfl
  refine vc_bcon (some ⟨b, 0, none⟩) s.size c f fa fb w _ ⟨hidx.mono fun e w1 ⟨⟨x, he, hx⟩, k1⟩ => ⟨_, he, .of_k0 k1, by rw [hx], k1⟩⟩
theorem scon_any (l : List ByteArray) (p : Option Addr) (c : Nat) (f : FuncId) (fa fb : Array Value) (g : ByteArray → Bool) (w : World) (hR : StrP w p l) (hs : l.length ≤ 1073741824) (hok : okFn Tryz.prog f = true)
    (hF : ∀ x, ∀ w1, K0 w w1 → Calls Tryz.prog f (appA fa [.string x] fb) w1 fun e w2 => e = .returned (.bool (g x)) ∧ K0 w1 w2) :
    Calls Tryz.prog 87 #[.slice p l.length c, .func (.func f) fa fb] w fun e w' => e = .returned (.bool (l.any g)) ∧ K0 w w' := by
  have hidx : Calls Tryz.prog 110 #[.slice p l.length c, .func (.func f) fa fb] w fun e w' => (∃ x : Int, e = .returned (.int .i64 x) ∧ decide (x ≥ 0) = l.any g) ∧ K0 w w' := by
    refine vc_sidx p l.length c f fa fb w _ ?_
    refine ⟨fun vs w' => ∃ i : Nat, vs = [.int .i64 (i : Int)] ∧ i ≤ l.length ∧ (∀ j z, j < i → l[j]? = some z → g z = false) ∧ K0 w w',
      fun vs _ => (match vs with | .int _ x :: _ => l.length - x.toNat | _ => 0), ⟨0, rfl, by omega, (fun j z h => by omega), .refl _ _⟩, ?_⟩
    rintro x w1 ⟨i, hv, hi, hall, k1⟩
    simp only [List.cons.injEq, Value.int.injEq, true_and, and_true] at hv
    subst hv
    refine bsp_intro (fun hlt => ?_) (fun hge => ?_)
    · have hlt : i < l.length := by simp at hlt; omega
      obtain ⟨z, b, o, hz, hp, hc⟩ := str_get (hR.k0 k1) hlt
      rw [Int.toNat_natCast]
      refine nn_is hp ⟨⟨by omega, by omega⟩, z, hc, f, fa, fb, rfl, hok, ⟨(hF z w1 k1).mono fun e w2 ⟨he, k2⟩ => ⟨_, he, .of_k0 k2, bsp_intro (fun hg => ?_) (fun hg => ?_)⟩⟩⟩
      · refine ⟨⟨i, rfl, ?_⟩, k1.trans k2⟩
        have : l.any g = true := List.any_eq_true.2 ⟨z, List.mem_of_getElem? hz, hg⟩
        rw [this]; simp
      · refine ⟨⟨i + 1, by rw [inc64 (by omega)], hlt, fun j y hj hy => ?_, k1.trans k2⟩, by rw [inc64 (by omega)]; simp only [Int.toNat_natCast]; omega⟩
        by_cases e : j = i
        · rw [e, hz] at hy; cases hy; exact hg
        · exact hall j y (by omega) hy
    · have hi : i = l.length := by simp at hge; omega
      subst hi
      refine ⟨⟨-1, rfl, ?_⟩, k1⟩
      have : l.any g = false := List.any_eq_false.2 fun z hz => by
        obtain ⟨j, hj, e⟩ := List.getElem_of_mem hz
        simpa using hall j z hj (by rw [List.getElem?_eq_getElem hj, e])
      rw [this]; rfl
  refine vc_scon p l.length c f fa fb w _ ⟨hidx.mono fun e w1 ⟨⟨x, he, hx⟩, k1⟩ => ⟨_, he, .of_k0 k1, by rw [hx], k1⟩⟩

/-! ### The program's -/
theorem gisl_any (c : Int) (w : World) : Calls Tryz.prog 111 #[.int .u8 c] w fun e w' => e = .returned (.bool (lowC c)) ∧ K0 w w' :=
  vc_gisl c w _ ⟨by unfold lowC; simp, .refl _ _⟩
theorem gcompC_any (c : Int) (w : World) : Calls Tryz.prog 113 #[.int .u8 c] w fun e w' => e = .returned (.bool (!compC c)) ∧ K0 w w' := by
  refine vc_gcompC c w _ ⟨(gisl_any c w).mono fun e w1 ⟨he, k1⟩ => ⟨_, he, .of_k0 k1, ?_, k1⟩⟩
  congr 2
  unfold compC
  rw [Bool.eq_iff_iff]
  cases lowC c <;> simp <;> omega
theorem compB_eq {s : ByteArray} (h0 : 0 < s.size) (h1 : s.size ≤ 20) (h2 : lowC (at8 s 0) = true) : compB s = !((List.range s.size).any fun i => !compC (at8 s i)) := by
  unfold compB
  rw [decide_eq_true h0, decide_eq_true h1, h2, List.not_any_eq_all_not]
  simp
theorem gcomp_any (s : ByteArray) (w : World) : Calls Tryz.prog 89 #[.string s] w fun e w' => e = .returned (.bool (compB s)) ∧ K0 w w' := by
  refine vc_gcomp s w _ ?_
  unfold VC_gcomp
  rw [toList_nil]
  refine ⟨gimp_intro fun h => ?_, bsp_intro (fun h => ?_) (fun h => ?_)⟩
  · simp only [Bool.not_eq_true', Bool.or_eq_false_iff, decide_eq_false_iff_not] at h
    omega
  · simp only [Bool.not_eq_true', Bool.or_eq_false_iff, decide_eq_false_iff_not] at h
    have h0 : 0 < s.size := by omega
    have h1 : s.size ≤ 20 := by omega
    refine ⟨(gisl_any (at8 s 0) w).mono fun e w1 ⟨he, k1⟩ => ⟨_, he, .of_k0 k1, bsp_intro (fun h2 => ?_) (fun h2 => ?_)⟩⟩
    · have h2 : lowC (at8 s 0) = false := by simpa using h2
      have : compB s = false := by unfold compB; rw [h2]; simp
      rw [this]; exact ⟨rfl, k1⟩
    · have h2 : lowC (at8 s 0) = true := by simpa using h2
      intro c n w2 hc hn
      have k2 : K0 w1 w2 := (hn.kp (fun _ => False)).of_drew
      refine ⟨.of_k0 k2, ⟨(bcon_any s n c 113 #[] #[] (fun c => !compC c) w2 (fun k hk => byte_cell hn.block hk) (by omega) (by kernel_rfl) (fun x w3 _ => gcompC_any x w3)).mono fun e w3 ⟨he, k3⟩ => ⟨_, he, .of_k0 k3, ?_, (k1.trans k2).trans k3⟩⟩⟩
      rw [compB_eq h0 h1 h2]
  · have h : s.size = 0 ∨ 20 < s.size := by
      simp only [Bool.not_eq_false', Bool.or_eq_true, decide_eq_true_eq] at h
      omega
    have : compB s = false := by
      unfold compB
      rcases h with h | h
      · rw [decide_eq_false (by omega)]; rfl
      · rw [decide_eq_false (show ¬ s.size ≤ 20 by omega)]; simp
    rw [this]
    exact ⟨.refl _ _, rfl, .refl _ _⟩
theorem gcheckC_any (s : ByteArray) (w : World) : Calls Tryz.prog 88 #[.string s] w fun e w' => e = .returned (.bool (!compB s)) ∧ K0 w w' :=
  vc_gcheckC s w _ ⟨(gcomp_any s w).mono fun _ _ ⟨he, k1⟩ => ⟨_, he, .of_k0 k1, rfl, k1⟩⟩
theorem gparts_any (s : ByteArray) (w : World) (hs : s.size ≤ 1073741824) (hG : GW w) : Calls Tryz.prog 82 #[.string s] w fun e w' => (∃ (p : Option Addr) (c : Nat), e = .returned (.slice p (partsD s).length c) ∧ StrP w' p (partsD s)) ∧ K0 w w' := by
  refine vc_gparts s w _ ?_
  obtain ⟨mm, hG1⟩ := hG
  refine ⟨(Tryz.strings_Split s ⟨#[46]⟩ mm w (by omega) hG1 (by decide)).mono fun e w2 ⟨he, hw2⟩ => ?_⟩
  have hlen : (partsD s).length = Lib.countB s ⟨#[46]⟩ + 1 := Lib.splitB_all ⟨#[46]⟩ (by decide) 0 _ s rfl
  have hn2 : NewB w (.cells ((partsD s).map .string).toArray 9) w.heap.size w2 := ⟨rfl, hw2⟩
  rw [← hlen] at he
  have k2 : K0 w w2 := hn2.kp _
  refine ⟨_, _, _, he, .of_k0 k2, ⟨_, _, rfl, fun k z hk => ⟨_, 0, rfl, ?_⟩⟩, k2⟩
  rw [Nat.zero_add]
  exact cell_at hn2.block (by simp [hk])
theorem partsD_len {s : ByteArray} : (partsD s).length = Lib.countB s ⟨#[46]⟩ + 1 := Lib.splitB_all ⟨#[46]⟩ (by decide) 0 _ s rfl
theorem partsD_le : ∀ (n : Nat) (s : ByteArray), s.size ≤ n → (partsD s).length ≤ s.size + 1
  | n, s, h => by
    have hf := findC_first 46 s
    by_cases hi : findC 46 s < s.size
    · cases n with
      | zero => omega
      | succ n =>
        rw [partsD_hit hf hi, List.length_cons]
        have hz : (s.extract (findC 46 s + 1) s.size).size = s.size - (findC 46 s + 1) := by rw [ByteArray.size_extract]; omega
        have := partsD_le n (s.extract (findC 46 s + 1) s.size) (by omega)
        omega
    · rw [partsD_miss hf hi]; simp
theorem gcheck_any (s : ByteArray) (w : World) (hG : GW w) : Calls Tryz.prog 64 #[.string s] w fun e w' => e = .returned (.int .i64 (gnE s)) ∧ K0 w w' := by
  refine vc_gcheck s w _ (bsp_intro (fun h => ?_) (fun h => ?_))
  · have : gnE s = 5 := by unfold gnE; rw [if_pos (by simp at h; omega)]
    rw [this]; exact ⟨rfl, .refl _ _⟩
  have h80 : ¬ 80 < s.size := by simp at h; omega
  have hle := partsD_le s.size s (Nat.le_refl _)
  unfold gnE
  rw [if_neg h80]
  refine ⟨(gparts_any s w (by omega) hG).mono fun e w1 ⟨⟨p, c, he, hR⟩, k1⟩ => ⟨_, _, _, he, .of_k0 k1, ?_⟩⟩
  refine ⟨(scon_any (partsD s) p c 88 #[] #[] (fun x => !compB x) w1 hR (by omega) (by kernel_rfl) (fun x w2 _ => gcheckC_any x w2)).mono fun e w2 ⟨he, k2⟩ => ⟨_, he, .of_k0 k2, bsp_intro (fun h => ?_) (fun h => ?_)⟩⟩
  · rw [if_pos h]; exact ⟨rfl, k1.trans k2⟩
  rw [if_neg (by rw [h]; decide)]
  refine bsp_intro (fun h => ?_) (fun h => ?_)
  · rw [if_pos (by simp at h; omega)]; exact ⟨rfl, k1.trans k2⟩
  · rw [if_neg (by simp at h; omega)]; exact ⟨rfl, k1.trans k2⟩

/-! ### The reference's -/
theorem xcomp_any (s : ByteArray) (w : World) : Calls Tryz.prog 94 #[.string s] w fun e w' => e = .returned (.bool (compB s)) ∧ K0 w w' := by
  refine vc_xcomp s w _ ⟨gimp_intro fun h => ?_, gimp_intro fun h => ?_, bsp_intro (fun h => ?_) (fun h => ?_)⟩
  · simp only [Bool.not_eq_true', Bool.or_eq_false_iff, decide_eq_false_iff_not] at h; omega
  · simp only [Bool.not_eq_true', Bool.or_eq_false_iff, decide_eq_false_iff_not] at h; omega
  · have : compB s = false := by
      simp only [Bool.or_eq_true, decide_eq_true_eq] at h
      unfold compB
      by_cases h1 : 0 < s.size ∧ s.size ≤ 20
      · have : lowC (at8 s 0) = false := by
          unfold lowC
          rcases h with ((h | h) | h) | h
          · omega
          · omega
          · have h : at8 s 0 < 97 := h
            rw [decide_eq_false (by omega)]; rfl
          · have h : at8 s 0 > 122 := h
            rw [decide_eq_false (show ¬ at8 s 0 ≤ 122 by omega)]; simp
        rw [this]; simp
      · by_cases h2 : 0 < s.size
        · rw [decide_eq_false (show ¬ s.size ≤ 20 by omega)]; simp
        · rw [decide_eq_false h2]; rfl
    rw [this]; exact ⟨rfl, .refl _ _⟩
  simp only [Bool.or_eq_false_iff, decide_eq_false_iff_not] at h
  have h2 : lowC (at8 s 0) = true := by
    have a1 : ¬ at8 s 0 < 97 := h.1.2
    have a2 : ¬ at8 s 0 > 122 := h.2
    unfold lowC
    rw [decide_eq_true (by omega), decide_eq_true (by omega)]; rfl
  have hc0 : compC (at8 s 0) = true := by unfold compC; rw [h2]; rfl
  refine ⟨fun vs w' => ∃ i : Nat, vs = [.int .i64 (i : Int)] ∧ 1 ≤ i ∧ i ≤ s.size ∧ (∀ j, j < i → compC (at8 s j) = true) ∧ K0 w w',
    fun vs _ => (match vs with | .int _ x :: _ => s.size - x.toNat | _ => 0), ⟨1, rfl, by omega, by omega, (fun j h => by have e : j = 0 := (by omega); rw [e]; exact hc0), .refl _ _⟩, ?_⟩
  rintro x w1 ⟨i, hv, h1i, hi, hall, k1⟩
  simp only [List.cons.injEq, Value.int.injEq, true_and, and_true] at hv
  subst hv
  refine bsp_intro (fun hlt => ?_) (fun hge => ?_)
  · have hlt : i < s.size := by simp at hlt; omega
    rw [Int.toNat_natCast]
    have e : (!(decide (at8 s i ≥ 97) && decide (at8 s i ≤ 122) || decide (at8 s i ≥ 48) && decide (at8 s i ≤ 57) || at8 s i == 45 || at8 s i == 43 || at8 s i == 95)) = !compC (at8 s i) := by
      unfold compC lowC; rfl
    rw [e]
    refine ⟨⟨by omega, by omega⟩, bsp_intro (fun hb => ?_) (fun hb => ?_)⟩
    · have hb : compC (at8 s i) = false := by simpa using hb
      have : compB s = false := by
        unfold compB
        have : ((List.range s.size).all fun i => compC (at8 s i)) = false := by
          rw [List.all_eq_false]; exact ⟨i, List.mem_range.2 hlt, by simp [hb]⟩
        rw [this]; simp
      rw [this]; exact ⟨rfl, k1⟩
    · have hb : compC (at8 s i) = true := by simpa using hb
      refine ⟨⟨i + 1, by rw [inc64 (by omega)], by omega, hlt, fun j hj => ?_, k1⟩, by rw [inc64 (by omega)]; simp only [Int.toNat_natCast]; omega⟩
      by_cases e : j = i
      · rw [e]; exact hb
      · exact hall j (by omega)
  · have hi : i = s.size := by simp at hge; omega
    subst hi
    have : compB s = true := by
      unfold compB
      rw [decide_eq_true (by omega), decide_eq_true (by omega), h2]
      simp only [Bool.true_and, List.all_eq_true]
      exact fun j hj => hall j (List.mem_range.1 hj)
    rw [this]; exact ⟨rfl, k1⟩
theorem ext_nil (s : ByteArray) (i : Nat) : s.extract i i = ⟨#[]⟩ := by
  apply ByteArray.ext_getElem
  · rw [ByteArray.size_extract]
    show min i s.size - i = 0
    omega
  · intro k hk _
    rw [ByteArray.size_extract] at hk
    omega
theorem xparts_any (s : ByteArray) (w : World) (hs : s.size ≤ 1000000) : Calls Tryz.prog 71 #[.string s, .int .u8 46] w fun e w' => (∃ (p : Option Addr) (c : Nat), e = .returned (.slice p (partsD s).length c) ∧ StrP w' p (partsD s)) ∧ K0 w w' := by
  refine vc_xparts s 46 w _ ?_
  refine ⟨fun vs w' => ∃ (i a : Nat) (p : Option Addr) (c : Nat) (out : List ByteArray), vs = [.int .i64 (i : Int), .string (s.extract a i), .slice p out.length c] ∧ a ≤ i ∧ i ≤ s.size ∧ out.length ≤ i ∧ (∀ j, a ≤ j → j < i → at8 s j ≠ 46) ∧ partsD s = out ++ partsD (s.extract a s.size) ∧ w'.ownsRow w.heap.size 9 1 (.slice p out.length c) out.length (out.map .string) ∧ K0 w w',
    fun vs _ => (match vs with | .int _ x :: _ => s.size - x.toNat | _ => 0), ⟨0, 0, none, 0, [], by rw [ext_nil]; rfl, by omega, by omega, by simp, (fun j h1 h2 => by omega), by simp, ⟨rfl, .inl ⟨rfl, rfl⟩⟩, .refl _ _⟩, ?_⟩
  rintro x y p n c w1 ⟨i, a, p', c', out, hv, hai, hi, hol, hno, hP, ho, k1⟩
  simp only [List.cons.injEq, Value.int.injEq, Value.string.injEq, Value.slice.injEq, true_and, and_true] at hv
  obtain ⟨rfl, rfl, rfl, rfl, rfl⟩ := hv
  have hesz : (s.extract a s.size).size = s.size - a := by rw [ByteArray.size_extract]; omega
  have happ : ∀ (W : World), K0 w1 W → ∀ (n1 : Nat), W.heap[n1]? = some (.cells #[.string (s.extract a i)] 9 (0, 0)) → ∃ (base : Nat) (xs : List Value), W.ownsRow base 9 1 (.slice p out.length c) out.length xs ∧ out.length + 1 ≤ 9223372036854775807 ∧ (out.length + 1) * 16 ≤ 140737488355328 ∧ base ≤ W.heap.size ∧ base = w.heap.size ∧ xs = out.map .string := fun W k n1 _ =>
    ⟨w.heap.size, _, owns_kp ho k (fun _ _ h => h), by omega, by omega, Nat.le_trans k1.size k.size, rfl, rfl⟩
  refine bsp_intro (fun hlt => ?_) (fun hge => ?_)
  · have hlt : i < s.size := by simp at hlt; omega
    rw [Int.toNat_natCast]
    refine ⟨⟨by omega, by omega⟩, bsp_intro (fun hb => fun n1 W hW => ?_) (fun hb => ?_)⟩
    · have hb : at8 s i = 46 := by simpa using hb
      have kW : K0 w1 W := hW.kk rfl
      obtain ⟨base, xs, h1, h2, h3, h4, rfl, rfl⟩ := happ W kW n1 (hW.cells 0 rfl)
      refine ⟨_, _, h1, h2, h3, h4, fun p' c' w2 ho2 hg2 _ => ?_⟩
      have k2 : K0 w w2 := (k1.trans kW).fresh (kp_grown hg2) (fun j hj e => by have := own_ge ho e; omega)
      have hfst : FirstC 46 (s.extract a s.size) 0 (i - a) := ⟨Nat.zero_le _, by omega, fun j _ hj => by
        rw [T0.at8_extract s a s.size j (by omega) (Nat.le_refl _)]
        exact hno (a + j) (by omega) (by omega), fun h => by
        rw [T0.at8_extract s a s.size _ (by omega) (Nat.le_refl _), show a + (i - a) = i by omega]
        exact hb⟩
      have hh := partsD_hit hfst (by omega)
      have e1 : (s.extract a s.size).extract 0 (i - a) = s.extract a i := by rw [ByteArray.extract_extract]; congr 1; omega
      have e2 : (s.extract a s.size).extract (i - a + 1) (s.extract a s.size).size = s.extract (i + 1) s.size := by rw [hesz, ByteArray.extract_extract]; congr 1 <;> omega
      rw [e1, e2] at hh
      have el : (out ++ [s.extract a i]).length = out.length + 1 := by simp
      refine ⟨⟨(kp_grown hg2).size, fun _ hx => by cases hx⟩, ⟨i + 1, i + 1, p', c', out ++ [s.extract a i], by rw [inc64 (by omega), ext_nil, el], by omega, hlt, by rw [el]; omega, (fun j h1 h2 => by omega), by rw [hP, hh, List.append_assoc]; rfl, by rw [el, List.map_append]; exact ho2, k2⟩, by rw [inc64 (by omega)]; simp only [Int.toNat_natCast]; omega⟩
    · have hb : at8 s i ≠ 46 := by simpa using hb
      rw [inc64 (by omega), Int.toNat_natCast]
      have e1 : s.extract a i ++ s.extract i (i + 1) = s.extract a (i + 1) := by
        rw [ByteArray.extract_append_extract]; congr 1 <;> omega
      have z1 : (s.extract a i).size ≤ s.size := by rw [ByteArray.size_extract]; omega
      have z2 : (s.extract i (i + 1)).size ≤ s.size := by rw [ByteArray.size_extract]; omega
      rw [e1]
      refine ⟨⟨by omega, by omega, by omega⟩, nneg (by omega), ⟨i + 1, a, p, c, out, rfl, by omega, hlt, by omega, fun j h1 h2 => ?_, hP, ho, k1⟩, by simp only [Int.toNat_natCast]; omega⟩
      by_cases e : j = i
      · rw [e]; exact hb
      · exact hno j h1 (by omega)
  · have hi2 : i = s.size := by simp at hge; omega
    subst hi2
    intro n1 W hW
    have kW : K0 w1 W := hW.kk rfl
    obtain ⟨base, xs, h1, h2, h3, h4, rfl, rfl⟩ := happ W kW n1 (hW.cells 0 rfl)
    refine ⟨_, _, h1, h2, h3, h4, fun p' c' w2 ho2 hg2 _ => ?_⟩
    have k2 : K0 w w2 := (k1.trans kW).fresh (kp_grown hg2) (fun j hj e => by have := own_ge ho e; omega)
    have hh := partsD_miss (s := s.extract a s.size) (i := (s.extract a s.size).size) ⟨Nat.zero_le _, Nat.le_refl _, fun j _ hj => by
      rw [T0.at8_extract s a s.size j (by omega) (Nat.le_refl _)]
      exact hno (a + j) (by omega) (by omega), fun h => by omega⟩ (by omega)
    rw [hh] at hP
    have el : (out ++ [s.extract a s.size]).length = out.length + 1 := by simp
    rw [hP, el]
    refine ⟨⟨(kp_grown hg2).size, fun _ hx => by cases hx⟩, ⟨p', c', rfl, ?_⟩, k2⟩
    have : w2.ownsRow w.heap.size 9 1 (.slice p' (out.length + 1) c') (out.length + 1) ((out ++ [s.extract a s.size]).map .string) := by rw [List.map_append]; exact ho2
    intro k z hk
    obtain ⟨g, hp, hc⟩ := own_cellL this (i := k) (v := .string z) (by rw [List.getElem?_map, hk]; rfl)
    exact ⟨g, 0, hp, by rw [Nat.zero_add]; exact hc⟩
theorem xgcheck_any (s : ByteArray) (w : World) : Calls Tryz.prog 72 #[.string s] w fun e w' => e = .returned (.int .i64 (gnE s)) ∧ K0 w w' := by
  refine vc_xgcheck s w _ (bsp_intro (fun h => ?_) (fun h => ?_))
  · have : gnE s = 5 := by unfold gnE; rw [if_pos (by simp at h; omega)]
    rw [this]; exact ⟨rfl, .refl _ _⟩
  have h80 : ¬ 80 < s.size := by simp at h; omega
  have hle := partsD_le s.size s (Nat.le_refl _)
  unfold gnE
  rw [if_neg h80]
  refine ⟨(xparts_any s w (by omega)).mono fun e w1 ⟨⟨p, c, he, hR⟩, k1⟩ => ⟨_, _, _, he, .of_k0 k1, ?_⟩⟩
  generalize partsD s = l at *
  refine ⟨fun vs w' => ∃ i : Nat, vs = [.int .i64 (i : Int)] ∧ i ≤ l.length ∧ (∀ j z, j < i → l[j]? = some z → compB z = true) ∧ K0 w1 w',
    fun vs _ => (match vs with | .int _ x :: _ => l.length - x.toNat | _ => 0), ⟨0, rfl, by omega, (fun j z h => by omega), .refl _ _⟩, ?_⟩
  rintro x w2 ⟨i, hv, hi, hall, k2⟩
  simp only [List.cons.injEq, Value.int.injEq, true_and, and_true] at hv
  subst hv
  refine bsp_intro (fun hlt => ?_) (fun hge => ?_)
  · have hlt : i < l.length := by simp at hlt; omega
    obtain ⟨z, b, o, hz, hp, hc⟩ := str_get (hR.k0 k2) hlt
    rw [Int.toNat_natCast]
    refine nn_is hp ⟨⟨by omega, by omega⟩, z, hc, ⟨(xcomp_any z w2).mono fun e w3 ⟨he, k3⟩ => ⟨_, he, .of_k0 k3, bsp_intro (fun hb => ?_) (fun hb => ?_)⟩⟩⟩
    · have : l.any (fun x => !compB x) = true := List.any_eq_true.2 ⟨z, List.mem_of_getElem? hz, hb⟩
      rw [if_pos this]
      exact ⟨rfl, (k1.trans k2).trans k3⟩
    · have hb : compB z = true := by simpa using hb
      refine ⟨⟨i + 1, by rw [inc64 (by omega)], hlt, fun j y hj hy => ?_, k2.trans k3⟩, by rw [inc64 (by omega)]; simp only [Int.toNat_natCast]; omega⟩
      by_cases e : j = i
      · rw [e, hz] at hy; cases hy; exact hb
      · exact hall j y (by omega) hy
  · have hi : i = l.length := by simp at hge; omega
    subst hi
    have : ¬ l.any (fun x => !compB x) = true := fun h => by
      obtain ⟨z, hz, e⟩ := List.any_eq_true.1 h
      obtain ⟨j, hj, e2⟩ := List.getElem_of_mem hz
      rw [hall j z hj (by rw [List.getElem?_eq_getElem hj, e2])] at e
      cases e
    rw [if_neg this]
    refine bsp_intro (fun h => ?_) (fun h => ?_)
    · rw [if_pos (by simp at h; omega)]; exact ⟨rfl, k1.trans k2⟩
    · rw [if_neg (by simp at h; omega)]; exact ⟨rfl, k1.trans k2⟩

end Go.Proofs.YtgmmoghagpmpfaaGreatDoor

/- Orders by a comparing function (plain): numbers first, then bytes. No condition. -/
namespace Go.Proofs.YtgmmoghagpmpfaaGreatDoor
open Go.Sort

/-- A comparing function. -/
structure Ord3 {α : Type} (cf : α → α → Int) : Prop where
  anti : ∀ x y, cf x y = - cf y x
  tlt : ∀ x y z, cf x y < 0 → cf y z < 0 → cf x z < 0
  el : ∀ x y z, cf x y = 0 → cf y z < 0 → cf x z < 0
  le : ∀ x y z, cf x y < 0 → cf y z = 0 → cf x z < 0
theorem Ord3.self {α : Type} {cf : α → α → Int} (h : Ord3 cf) (x : α) : cf x x = 0 := by have := h.anti x x; omega
theorem Ord3.le_trans {α : Type} {cf : α → α → Int} (h : Ord3 cf) {x y z : α} (h1 : cf x y ≤ 0) (h2 : cf y z ≤ 0) (hz : ∀ x y z, cf x y = 0 → cf y z = 0 → cf x z = 0) : cf x z ≤ 0 := by
  rcases Int.lt_or_eq_of_le h1 with a | a <;> rcases Int.lt_or_eq_of_le h2 with b | b
  · have := h.tlt x y z a b; omega
  · have := h.le x y z a b; omega
  · have := h.el x y z a b; omega
  · have := hz x y z a b; omega
theorem cb_anti : ∀ a b : List UInt8, Lib.compareBytes a b = - Lib.compareBytes b a
  | [], [] => rfl
  | [], _ :: _ => rfl
  | _ :: _, [] => rfl
  | a :: us, b :: bs => by
    have ih := cb_anti us bs
    simp only [Lib.compareBytes]
    by_cases h1 : a < b
    · have h2 : ¬ b < a := by rw [UInt8.lt_iff_toNat_lt] at h1 ⊢; omega
      rw [if_pos h1, if_neg h2, if_pos h1]
    · by_cases h2 : b < a
      · rw [if_neg h1, if_pos h2, if_pos h2]; rfl
      · rw [if_neg h1, if_neg h2, if_neg h2, if_neg h1]; exact ih
theorem cb_zero : ∀ a b : List UInt8, Lib.compareBytes a b = 0 → a = b
  | [], [], _ => rfl
  | [], _ :: _, h => by simp [Lib.compareBytes] at h
  | _ :: _, [], h => by simp [Lib.compareBytes] at h
  | a :: us, b :: bs, h => by
    simp only [Lib.compareBytes] at h
    split at h
    · cases h
    · split at h
      · cases h
      · rename_i h1 h2
        have : a = b := by
          rw [UInt8.lt_iff_toNat_lt] at h1 h2
          exact UInt8.toNat_inj.1 (by omega)
        rw [this, cb_zero us bs h]
theorem cb_self (a : List UInt8) : Lib.compareBytes a a = 0 := by have := cb_anti a a; omega
theorem cb_tlt : ∀ a b c : List UInt8, Lib.compareBytes a b < 0 → Lib.compareBytes b c < 0 → Lib.compareBytes a c < 0
  | [], [], _, h, _ => by simp [Lib.compareBytes] at h
  | _ :: _, [], _, h, _ => by simp [Lib.compareBytes] at h
  | [], _ :: _, [], _, h => by simp [Lib.compareBytes] at h
  | [], _ :: _, _ :: _, _, _ => by simp [Lib.compareBytes]
  | _ :: _, _ :: _, [], _, h => by simp [Lib.compareBytes] at h
  | a :: us, b :: bs, c :: cs, h1, h2 => by
    have ih := cb_tlt us bs cs
    simp only [Lib.compareBytes] at h1 h2 ⊢
    simp only [UInt8.lt_iff_toNat_lt] at h1 h2 ⊢
    repeat' split
    all_goals first | decide | (split at h1 <;> split at h2 <;> first | omega | (split at h1 <;> first | omega | (split at h2 <;> first | omega | (apply ih <;> assumption))) | (split at h2 <;> first | omega | (apply ih <;> assumption)))
theorem Ord3.swo {α : Type} {cf : α → α → Int} (h : Ord3 cf) : SWO fun x y => decide (cf x y < 0) where
  irrefl x := by have := h.self x; simp; omega
  trans x y z h1 h2 := by simp at h1 h2 ⊢; exact h.tlt x y z h1 h2
  ntrans x y z h1 h2 := by
    simp at h1 h2 ⊢
    have a1 := h.anti x y
    have a2 := h.anti y z
    have a3 := h.anti x z
    rcases Int.lt_or_eq_of_le h1 with p | p <;> rcases Int.lt_or_eq_of_le h2 with q | q
    · have := h.tlt z y x (by omega) (by omega); omega
    · have := h.el z y x (by omega) (by omega); omega
    · have := h.le z y x (by omega) (by omega); omega
    · have b1 : cf x y = 0 := by omega
      have b2 : cf y z = 0 := by omega
      apply Classical.byContradiction
      intro hc
      have := h.le x z y (by omega) (by omega)
      omega

end Go.Proofs.YtgmmoghagpmpfaaGreatDoor

/- Sorted permutations are equal; insertion keeps the order; keys of a number and bytes (plain). No condition. -/
namespace Go.Proofs.YtgmmoghagpmpfaaGreatDoor
open Go.Sort

theorem perm_sorted_eq {β : Type} {R : β → β → Prop} (anti : ∀ x y, R x y → R y x → x = y) : ∀ (L L' : List β), L.Perm L' → L.Pairwise R → L'.Pairwise R → L = L'
  | [], L', h, _, _ => (List.nil_perm.1 h).symm
  | a :: r, [], h, _, _ => by have := h.length_eq; simp at this
  | a :: r, b :: r', h, h1, h2 => by
    have e : a = b := by
      by_cases e : a = b
      · exact e
      · have ha : a ∈ r' := by
          have : a ∈ b :: r' := h.mem_iff.1 List.mem_cons_self
          rcases List.mem_cons.1 this with h | h
          · exact absurd h e
          · exact h
        have hb : b ∈ r := by
          have : b ∈ a :: r := h.mem_iff.2 List.mem_cons_self
          rcases List.mem_cons.1 this with h | h
          · exact absurd h.symm e
          · exact h
        exact anti a b ((List.pairwise_cons.1 h1).1 b hb) ((List.pairwise_cons.1 h2).1 a ha)
    subst e
    congr 1
    exact perm_sorted_eq anti r r' h.cons_inv (List.pairwise_cons.1 h1).2 (List.pairwise_cons.1 h2).2
end Go.Proofs.YtgmmoghagpmpfaaGreatDoor

/- Chapter 39, plain: submissions, entries, their order. No program in sight. -/
namespace Go.Proofs.YtgmmoghagpmpfaaGreatDoor
open Go.RowKit Go.Sort

/-! ### Names compared -/
def lsC : List ByteArray → List ByteArray → Int
  | [], [] => 0
  | [], _ :: _ => -1
  | _ :: _, [] => 1
  | a :: r, b :: s => if Lib.compareBytes a.data.toList b.data.toList ≠ 0 then Lib.compareBytes a.data.toList b.data.toList else lsC r s
theorem lsC_anti : ∀ a b, lsC a b = - lsC b a
  | [], [] => rfl
  | [], _ :: _ => rfl
  | _ :: _, [] => rfl
  | a :: r, b :: s => by
    have h1 := cb_anti a.data.toList b.data.toList
    have h2 := lsC_anti r s
    unfold lsC
    split <;> split <;> omega
theorem ba_eq {a b : ByteArray} (h : a.data.toList = b.data.toList) : a = b := ByteArray.ext (Array.toList_inj.1 h)
theorem lsC_zero : ∀ a b, lsC a b = 0 → a = b
  | [], [], _ => rfl
  | [], _ :: _, h => by cases h
  | _ :: _, [], h => by cases h
  | a :: r, b :: s, h => by
    unfold lsC at h
    split at h
    · contradiction
    · rename_i h1
      have h2 : Lib.compareBytes a.data.toList b.data.toList = 0 := by simpa using h1
      rw [lsC_zero r s h, ba_eq (cb_zero _ _ h2)]
theorem lsC_tlt : ∀ a b c, lsC a b < 0 → lsC b c < 0 → lsC a c < 0
  | [], [], _, h, _ => by simp [lsC] at h
  | _ :: _, [], _, h, _ => by simp [lsC] at h
  | [], _ :: _, [], _, h => by simp [lsC] at h
  | [], _ :: _, _ :: _, _, _ => by simp [lsC]
  | _ :: _, _ :: _, [], _, h => by simp [lsC] at h
  | a :: r, b :: s, c :: t, h1, h2 => by
    have ih := lsC_tlt r s t
    unfold lsC at h1 h2 ⊢
    have q1 := cb_tlt a.data.toList b.data.toList c.data.toList
    by_cases e1 : Lib.compareBytes a.data.toList b.data.toList = 0
    · have e : a = b := ba_eq (cb_zero _ _ e1)
      subst e
      rw [if_neg (by omega)] at h1
      by_cases e2 : Lib.compareBytes a.data.toList c.data.toList = 0
      · rw [if_neg (by omega)] at h2
        rw [if_neg (by omega)]
        exact ih h1 h2
      · rw [if_pos e2] at h2
        rw [if_pos e2]
        exact h2
    · rw [if_pos e1] at h1
      by_cases e2 : Lib.compareBytes b.data.toList c.data.toList = 0
      · have e : b = c := ba_eq (cb_zero _ _ e2)
        subst e
        rw [if_pos e1]
        exact h1
      · rw [if_pos e2] at h2
        have := q1 h1 h2
        rw [if_pos (by omega)]
        exact this
def gnC (a b : ByteArray) : Int := lsC (partsD a) (partsD b)
theorem lsC_ord : Ord3 fun x y : ByteArray => gnC x y where
  anti x y := lsC_anti _ _
  tlt x y z := lsC_tlt _ _ _
  el x y z h1 h2 := by have := lsC_zero (partsD x) (partsD y) h1; show lsC (partsD x) _ < 0; rw [this]; exact h2
  le x y z h1 h2 := by have := lsC_zero (partsD y) (partsD z) h2; show lsC _ (partsD z) < 0; rw [← this]; exact h1

end Go.Proofs.YtgmmoghagpmpfaaGreatDoor

/- Maps in the program's memory: their entries as a list, looked up, written, struck. Generic: no program, no condition. -/
namespace Go.Proofs.YtgmmoghagpmpfaaGreatDoor
open Go.RowKit Go.Maps

section
variable {α : Type} [DecidableEq α]
def aget {β : Type} : List (α × β) → α → Option β
  | [], _ => none
  | (b, v) :: r, a => if b = a then some v else aget r a
def aset {β : Type} : List (α × β) → α → β → List (α × β)
  | [], a, v => [(a, v)]
  | (b, u) :: r, a, v => if b = a then (a, v) :: r else (b, u) :: aset r a v
variable {β : Type}
theorem aget_aset (l : List (α × β)) (a c : α) (v : β) : aget (aset l a v) c = if a = c then some v else aget l c := by
  induction l with
  | nil => simp [aset, aget]
  | cons p r ih =>
    obtain ⟨b, u⟩ := p
    unfold aset
    by_cases h : b = a
    · subst h
      simp only [if_pos]
      unfold aget
      split <;> rfl
    · rw [if_neg h]
      simp only [aget]
      rw [ih]
      by_cases h1 : b = c
      · subst h1
        rw [if_pos rfl, if_neg (fun e => h e.symm), if_pos rfl]
      · rw [if_neg h1, if_neg h1]
theorem aget_none {l : List (α × β)} {a : α} : aget l a = none ↔ ∀ p ∈ l, p.1 ≠ a := by
  induction l with
  | nil => simp [aget]
  | cons p r ih =>
    obtain ⟨b, u⟩ := p
    unfold aget
    by_cases h : b = a
    · simp [h]
    · rw [if_neg h, ih]
      simp [h]
theorem aget_mem {l : List (α × β)} {a : α} {v : β} (h : aget l a = some v) : (a, v) ∈ l := by
  induction l with
  | nil => simp [aget] at h
  | cons p r ih =>
    obtain ⟨b, u⟩ := p
    unfold aget at h
    by_cases h' : b = a
    · rw [if_pos h'] at h
      simp at h; subst h; subst h'; simp
    · rw [if_neg h'] at h
      exact List.mem_cons_of_mem _ (ih h)
theorem aget_at {l : List (α × β)} (hd : l.Pairwise fun p q => p.1 ≠ q.1) {a : α} {v : β} (h : (a, v) ∈ l) : aget l a = some v := by
  induction l with
  | nil => cases h
  | cons p r ih =>
    obtain ⟨b, u⟩ := p
    obtain ⟨h1, h2⟩ := List.pairwise_cons.1 hd
    unfold aget
    rcases List.mem_cons.1 h with e | e
    · cases e; rw [if_pos rfl]
    · rw [if_neg (h1 _ e)]; exact ih h2 e
theorem aset_new {l : List (α × β)} {a : α} {v : β} (h : ∀ p ∈ l, p.1 ≠ a) : aset l a v = l ++ [(a, v)] := by
  induction l with
  | nil => rfl
  | cons p r ih =>
    obtain ⟨b, u⟩ := p
    unfold aset
    rw [if_neg (h (b, u) (by simp)), ih fun q hq => h q (by simp [hq])]
    rfl
theorem aset_old {l : List (α × β)} (hd : l.Pairwise fun p q => p.1 ≠ q.1) {a : α} {v u : β} {j : Nat} (hj : l[j]? = some (a, u)) : aset l a v = l.set j (a, v) := by
  induction l generalizing j with
  | nil => simp at hj
  | cons p r ih =>
    obtain ⟨b, x⟩ := p
    obtain ⟨h1, h2⟩ := List.pairwise_cons.1 hd
    unfold aset
    cases j with
    | zero =>
      simp at hj
      rw [if_pos hj.1]; rfl
    | succ j =>
      have hj' : r[j]? = some (a, u) := by simpa using hj
      rw [if_neg (h1 _ (List.mem_of_getElem? hj')), ih h2 hj']
      rfl
theorem aset_keys {l : List (α × β)} (a : α) (v : β) : ∀ p ∈ aset l a v, p = (a, v) ∨ (p ∈ l ∧ p.1 ≠ a) ∨ (p ∈ l) := by
  induction l with
  | nil => intro p hp; simp [aset] at hp; exact .inl hp
  | cons q r ih =>
    obtain ⟨b, u⟩ := q
    intro p hp
    unfold aset at hp
    split at hp
    · rcases List.mem_cons.1 hp with h | h
      · exact .inl h
      · exact .inr (.inr (by simp [h]))
    · rcases List.mem_cons.1 hp with h | h
      · exact .inr (.inr (by simp [h]))
      · rcases ih p h with h | h | h
        · exact .inl h
        · exact .inr (.inr (by simp [h.1]))
        · exact .inr (.inr (by simp [h]))
theorem aset_dis {l : List (α × β)} (hd : l.Pairwise fun p q => p.1 ≠ q.1) (a : α) (v : β) : (aset l a v).Pairwise fun p q => p.1 ≠ q.1 := by
  induction l with
  | nil => simp [aset]
  | cons q r ih =>
    obtain ⟨b, u⟩ := q
    obtain ⟨h1, h2⟩ := List.pairwise_cons.1 hd
    unfold aset
    split
    · rename_i h
      subst h
      exact List.pairwise_cons.2 ⟨h1, h2⟩
    · rename_i h
      refine List.pairwise_cons.2 ⟨fun p hp => ?_, ih h2⟩
      rcases aset_keys a v p hp with e | e | e
      · rw [e]; exact h
      · exact h1 _ e.1
      · exact h1 _ e
end

/-- The entries with their values as they lie. -/
def amap {α β γ : Type} (f : β → γ) (l : List (α × β)) : List (α × γ) := l.map fun p => (p.1, f p.2)
theorem aset_amap {α β γ : Type} [DecidableEq α] (f : β → γ) (l : List (α × β)) (a : α) (v : β) : aset (amap f l) a (f v) = amap f (aset l a v) := by
  induction l with
  | nil => rfl
  | cons p r ih =>
    obtain ⟨b, u⟩ := p
    show aset ((b, f u) :: amap f r) a (f v) = _
    unfold aset
    split
    · rfl
    · rw [ih]; rfl
theorem aget_amap {α β γ : Type} [DecidableEq α] (f : β → γ) (l : List (α × β)) (a : α) : aget (amap f l) a = (aget l a).map f := by
  induction l with
  | nil => rfl
  | cons p r ih =>
    obtain ⟨b, u⟩ := p
    show aget ((b, f u) :: amap f r) a = _
    unfold aget
    split
    · rfl
    · rw [ih]

/-- Block b is a map with these entries, in the order of their making; a key lies as enc says. -/
structure MapB {α : Type} (P : Program) (k : TypeId) (enc : α → Value) (w : World) (b : Nat) (l : List (α × Value)) : Prop where
  blk : ∃ es clock, w.heap[b]? = some (.map es clock) ∧ es.toList.map (fun e => (e.key, e.val)) = l.map (fun p => (enc p.1, p.2))
  key : ∀ p ∈ l, ∃ kl, keyOf P k (enc p.1) = some kl
  dis : l.Pairwise fun p q => p.1 ≠ q.1
  brn : ∀ es c, w.heap[b]? = some (.map es c) → (es.toList.map (·.born)).Nodup ∧ ∀ x ∈ es.toList, x.born < c

section
variable {α : Type} {P : Program} {k t e : TypeId} {enc : α → Value} {w w1 : World} {b : Nat} {l : List (α × Value)}
theorem MapB.lt (h : MapB P k enc w b l) : b < w.heap.size := by obtain ⟨es, c, hb, _⟩ := h.blk; exact block_lt hb
theorem MapB.kp {M : Nat → Prop} {w' : World} (h : MapB P k enc w b l) (hk : Kp M w w') (hm : ¬ M b) : MapB P k enc w' b l := by
  obtain ⟨es, c, hb, he⟩ := h.blk
  exact ⟨⟨es, c, hk.blk hb hm, he⟩, h.key, h.dis, fun es' c' h' => h.brn es' c' (by rw [hk.blk hb hm] at h'; rw [hb]; exact h')⟩
theorem MapB.drew (h : MapB P k enc w b l) : MapB P k enc w.drew b l := ⟨h.blk, h.key, h.dis, h.brn⟩
theorem NewB.map {c : Nat} (h : NewB w (.map #[] c) b w1) : MapB P k enc w1 b ([] : List (α × Value)) :=
  ⟨⟨#[], c, h.block, rfl⟩, (fun p hp => by cases hp), .nil, fun es c' h' => by rw [h.block] at h'; cases h'; exact ⟨.nil, fun x hx => by simp at hx⟩⟩

variable [DecidableEq α] (hinj : ∀ x y, enc x = enc y → x = y)
include hinj
theorem map_find (K : Keyed P k) {es : List MapEntry} (he : es.map (fun e => (e.key, e.val)) = l.map (fun p => (enc p.1, p.2))) (hkey : ∀ p ∈ l, ∃ kl, keyOf P k (enc p.1) = some kl) (hdis : l.Pairwise fun p q => p.1 ≠ q.1)
    {a : α} {kl : Lit} (ha : keyOf P k (enc a) = some kl) :
    (aget l a = none ∧ (Instr.findKey k (enc a) es).run P w = .ok none w) ∨
    (∃ j v u, aget l a = some v ∧ (Instr.findKey k (enc a) es).run P w = .ok (some (j, v)) w ∧ l[j]? = some (a, v) ∧ es[j]? = some u ∧ u.key = enc a) := by
  have hm : ∀ x ∈ es, ∃ p ∈ l, x.key = enc p.1 ∧ x.val = p.2 := fun x hx => by
    have : (x.key, x.val) ∈ es.map (fun e => (e.key, e.val)) := List.mem_map.2 ⟨x, hx, rfl⟩
    rw [he] at this
    obtain ⟨p, hp, e⟩ := List.mem_map.1 this
    simp at e
    exact ⟨p, hp, e.1.symm, e.2.symm⟩
  rcases K.find w ha es (fun x hx => by
    obtain ⟨p, hp, h1, _⟩ := hm x hx
    rw [h1]; exact hkey p hp) with ⟨h1, h2⟩ | ⟨j, u, h1, h2, h3⟩
  · refine .inl ⟨aget_none.2 fun p hp hpa => ?_, h1⟩
    have : (enc p.1, p.2) ∈ l.map (fun p => (enc p.1, p.2)) := List.mem_map.2 ⟨p, hp, rfl⟩
    rw [← he] at this
    obtain ⟨x, hx, e⟩ := List.mem_map.1 this
    simp at e
    exact h2 x hx (by rw [e.1, hpa])
  · have h4 : (es.map (fun e => (e.key, e.val)))[j]? = some (u.key, u.val) := by simp [h2]
    rw [he] at h4
    simp only [List.getElem?_map, Option.map_eq_some_iff] at h4
    obtain ⟨p, hp, e⟩ := h4
    simp at e
    obtain ⟨pa, pv⟩ := p
    have ea : pa = a := hinj _ _ (e.1.trans h3)
    subst ea
    have ev : pv = u.val := e.2
    subst ev
    exact .inr ⟨j, _, u, aget_at hdis (List.mem_of_getElem? hp), h1, hp, h2, h3⟩
/-- A look into a map. -/
theorem MapB.look (h : MapB P k enc w b l) (K : Keyed P k) (ht : P.underlying t = some (.map k e)) {z : Value} (hz : (zeroValue e).run P w = .ok z w) {a : α} {kl : Lit} (ha : keyOf P k (enc a) = some kl) (ok : Bool) :
    LookP P t (.map (some b)) (enc a) ok (match ok with | true => .tuple #[(aget l a).getD z, .bool (aget l a).isSome] | false => (aget l a).getD z) w := by
  obtain ⟨es, c, hb, he⟩ := h.blk
  constructor
  rcases map_find hinj K he h.key h.dis ha (w := w) with ⟨h1, h2⟩ | ⟨j, v, u, h1, h2, _⟩
  · rw [h1]
    cases ok <;> simp [Instr.lookup, run_underlying ht, MapKept.run_getObj_map hb, K.check w _ ha, h2, hz, Result.andThen]
  · rw [h1]
    cases ok <;> simp [Instr.lookup, run_underlying ht, MapKept.run_getObj_map hb, K.check w _ ha, h2, Result.andThen]
/-- An entry of a map is written. -/
theorem MapB.upd (h : MapB P k enc w b l) (K : Keyed P k) (ht : P.underlying t = some (.map k e)) {a : α} {kl : Lit} (ha : keyOf P k (enc a) = some kl) (v : Value) :
    ∃ w1, UpdP P t (.map (some b)) (enc a) v w w1 ∧ MapB P k enc w1 b (aset l a v) ∧ Kp (· = b) w w1 := by
  obtain ⟨es, c, hb, he⟩ := h.blk
  have hkp : ∀ o, Kp (· = b) w (ChangeMaps.setBlock w b o) := fun o => ⟨rfl, rfl, rfl, by simp [ChangeMaps.setBlock], fun i _ hi => ChangeMaps.heap_setBlock_other hb _ (fun e => hi (by rw [e]))⟩
  have hkeys : ∀ p ∈ aset l a v, ∃ kl, keyOf P k (enc p.1) = some kl := fun p hp => by
    rcases aset_keys a v p hp with e | e | e
    · rw [e]; exact ⟨_, ha⟩
    · exact h.key p e.1
    · exact h.key p e
  rcases map_find hinj K he h.key h.dis ha (w := w) with ⟨h1, h2⟩ | ⟨j, x, u, h1, h2, h3, h4, h5⟩
  · refine ⟨ChangeMaps.setBlock w b (.map (es.push ⟨enc a, v, c⟩) (c + 1)), ⟨?_⟩, ⟨⟨_, _, ChangeMaps.heap_setBlock_same hb _, ?_⟩, hkeys, aset_dis h.dis a v, fun es' c' h' => ?_⟩, hkp _⟩
    rotate_left 2
    · rw [ChangeMaps.heap_setBlock_same hb] at h'
      cases h'
      have h3 := h.brn es c hb
      refine ⟨?_, fun x hx => ?_⟩
      · rw [Array.toList_push, List.map_append, List.nodup_append]
        refine ⟨h3.1, by simp, fun x hx y hy e => ?_⟩
        obtain ⟨z, hz, rfl⟩ := List.mem_map.1 hx
        simp at hy
        have := h3.2 z hz
        omega
      · rw [Array.toList_push] at hx
        rcases List.mem_append.1 hx with hx | hx
        · have := h3.2 x hx; omega
        · simp at hx; subst hx; exact Nat.lt_succ_self _
    · simp [Instr.mapUpdate, run_underlying ht, MapKept.run_getObj_map hb, K.check w _ ha, h2, MapKept.run_setObj_map _ hb, Result.andThen, ChangeMaps.setBlock]
    · rw [aset_new (aget_none.1 h1)]
      simp [he]
  · refine ⟨ChangeMaps.setBlock w b (.map (es.modify j fun e' => { e' with key := enc a, val := v }) c), ⟨?_⟩, ⟨⟨_, _, ChangeMaps.heap_setBlock_same hb _, ?_⟩, hkeys, aset_dis h.dis a v, fun es' c' h' => ?_⟩, hkp _⟩
    rotate_left 2
    · rw [ChangeMaps.heap_setBlock_same hb] at h'
      cases h'
      have h3' := h.brn es c hb
      have eb : (es.modify j fun e' => { e' with key := enc a, val := v }).toList.map (·.born) = es.toList.map (·.born) := by
        have hj : es[j]? = some u := by simpa using h4
        rw [Array.toList_modify, ChangeMaps.modify_eq_set _ _ _ _ h4, List.map_set]
        exact List.ext_getElem? fun i => by
          rw [List.getElem?_set]
          split
          · rename_i hji
            subst hji
            have hlt : j < (es.toList.map (·.born)).length := by simpa using (List.getElem?_eq_some_iff.1 h4).1
            rw [if_pos hlt, List.getElem?_map, h4]; rfl
          · rfl
      refine ⟨by rw [eb]; exact h3'.1, fun x hx => ?_⟩
      have hm : x.born ∈ (es.modify j fun e' => { e' with key := enc a, val := v }).toList.map (·.born) := List.mem_map.2 ⟨x, hx, rfl⟩
      rw [eb] at hm
      obtain ⟨y, hy, e⟩ := List.mem_map.1 hm
      rw [← e]; exact h3'.2 y hy
    · have hj : es[j]? = some u := by simpa using h4
      simp [Instr.mapUpdate, run_underlying ht, MapKept.run_getObj_map hb, K.check w _ ha, h2, hj, h5, K.stays w ha, MapKept.run_setObj_map _ hb, Result.andThen, ChangeMaps.setBlock]
    · rw [aset_old h.dis h3, List.map_set, ← he, Array.toList_modify, ChangeMaps.modify_eq_set _ _ _ _ h4, List.map_set]
end

end Go.Proofs.YtgmmoghagpmpfaaGreatDoor

/- Chapter 27, plain: intervals in ascending order and the numbers in them; the next number, a number out, the numbers of a range, neighbours. No condition. -/
namespace Go.Proofs.YtgmmoghagpmpfaaGreatDoor

/-- An interval of numbers. -/
structure Iv where
  a : Int
  b : Int
def Iv.l (x : Iv) : List Int := (List.range (x.b - x.a + 1).toNat).map fun (k : Nat) => x.a + (k : Int)
/-- The numbers of intervals, one behind the other. -/
def exI (l : List Iv) : List Int := l.flatMap Iv.l
/-- Intervals in ascending order that do not touch each other, from lo to hi. -/
def IvS (hi : Int) : Int → List Iv → Prop
  | _, [] => True
  | lo, x :: t => lo ≤ x.a ∧ x.a ≤ x.b ∧ x.b ≤ hi ∧ IvS hi (x.b + 2) t
theorem Iv.mem_l {x : Iv} {n : Int} : n ∈ x.l ↔ x.a ≤ n ∧ n ≤ x.b := by
  unfold Iv.l
  rw [List.mem_map]
  constructor
  · rintro ⟨k, hk, rfl⟩
    have := List.mem_range.1 hk
    omega
  · intro h
    exact ⟨(n - x.a).toNat, List.mem_range.2 (by omega), by omega⟩
theorem Iv.l_len (x : Iv) : x.l.length = (x.b - x.a + 1).toNat := by unfold Iv.l; simp
theorem mem_exI {l : List Iv} {n : Int} : n ∈ exI l ↔ ∃ x ∈ l, x.a ≤ n ∧ n ≤ x.b := by
  unfold exI
  rw [List.mem_flatMap]
  exact ⟨fun ⟨x, h, h2⟩ => ⟨x, h, Iv.mem_l.1 h2⟩, fun ⟨x, h, h2⟩ => ⟨x, h, Iv.mem_l.2 h2⟩⟩
theorem IvS.mem {hi : Int} : ∀ {lo : Int} {l : List Iv}, IvS hi lo l → ∀ x ∈ l, lo ≤ x.a ∧ x.a ≤ x.b ∧ x.b ≤ hi
  | _, [], _, x, h => by cases h
  | lo, y :: t, hS, x, h => by
    obtain ⟨h1, h2, h3, h4⟩ := hS
    rcases List.mem_cons.1 h with rfl | h
    · exact ⟨h1, h2, h3⟩
    · have := h4.mem x h; omega
theorem IvS.exI {hi lo : Int} {l : List Iv} (h : IvS hi lo l) {n : Int} (hn : n ∈ exI l) : lo ≤ n ∧ n ≤ hi := by
  obtain ⟨x, hx, h1, h2⟩ := mem_exI.1 hn
  have := h.mem x hx; omega
theorem IvS.mono {hi hi2 : Int} (hh : hi ≤ hi2) : ∀ {lo lo2 : Int} {l : List Iv}, lo2 ≤ lo → IvS hi lo l → IvS hi2 lo2 l
  | _, _, [], _, _ => trivial
  | _, _, y :: t, hl, ⟨h1, h2, h3, h4⟩ => ⟨by omega, h2, by omega, IvS.mono hh (Int.le_refl _) h4⟩
theorem exI_app (l m : List Iv) : exI (l ++ m) = exI l ++ exI m := by unfold exI; exact List.flatMap_append
theorem exI_one (n : Int) : exI [⟨n, n⟩] = [n] := by
  simp [exI, Iv.l]
/-- The next number. -/
def withI (l : List Iv) (n : Int) : List Iv :=
  match l.getLast? with
  | some x => if x.b = n - 1 then l.dropLast ++ [⟨x.a, n⟩] else l ++ [⟨n, n⟩]
  | none => [⟨n, n⟩]
theorem IvS_app {hi : Int} : ∀ {lo : Int} {l : List Iv} {x : Iv}, IvS hi lo (l ++ [x]) ↔ (IvS hi lo l ∧ lo ≤ x.a ∧ x.a ≤ x.b ∧ x.b ≤ hi ∧ ∀ y ∈ l, y.b + 2 ≤ x.a)
  | lo, [], x => by simp [IvS]
  | lo, y :: t, x => by
    show (lo ≤ y.a ∧ y.a ≤ y.b ∧ y.b ≤ hi ∧ IvS hi (y.b + 2) (t ++ [x])) ↔ _
    rw [IvS_app]
    constructor
    · rintro ⟨h1, h2, h3, h4, h5, h6, h7, h8⟩
      refine ⟨⟨h1, h2, h3, h4⟩, by omega, h6, h7, fun z hz => ?_⟩
      rcases List.mem_cons.1 hz with rfl | hz
      · exact h5
      · exact h8 z hz
    · rintro ⟨⟨h1, h2, h3, h4⟩, h5, h6, h7, h8⟩
      exact ⟨h1, h2, h3, h4, h8 y List.mem_cons_self, h6, h7, fun z hz => h8 z (List.mem_cons_of_mem _ hz)⟩
theorem Iv.l_succ {a n : Int} (h : a ≤ n) : (⟨a, n⟩ : Iv).l = (⟨a, n - 1⟩ : Iv).l ++ [n] := by
  unfold Iv.l
  have e : (n - a + 1).toNat = (n - 1 - a + 1).toNat + 1 := by omega
  show (List.range (n - a + 1).toNat).map _ = (List.range (n - 1 - a + 1).toNat).map _ ++ [n]
  rw [e, List.range_succ, List.map_append]
  congr 1
  show [_] = [n]
  congr 1
  show a + (((n - 1 - a + 1).toNat : Nat) : Int) = n
  omega
theorem withI_ok {l : List Iv} {n : Int} (h : IvS (n - 1) 1 l) (h1 : 1 ≤ n) : exI (withI l n) = exI l ++ [n] ∧ IvS n 1 (withI l n) := by
  unfold withI
  rcases List.eq_nil_or_concat l with rfl | ⟨t, x, rfl⟩
  · exact ⟨by simpa [exI] using exI_one n, by simp [IvS]; exact h1⟩
  · rw [List.concat_eq_append] at h ⊢
    rw [List.getLast?_append]
    have hx := IvS_app.1 h
    obtain ⟨h2, h3, h4, h5, h6⟩ := hx
    simp only [List.getLast?_singleton, Option.some_or]
    split
    · rename_i e
      have e : x.b = n - 1 := e
      rw [List.dropLast_concat, exI_app, exI_app, List.append_assoc]
      refine ⟨?_, IvS_app.2 ⟨h2.mono (by omega) (Int.le_refl _), h3, by show x.a ≤ n; omega, Int.le_refl _, h6⟩⟩
      congr 1
      show (⟨x.a, n⟩ : Iv).l ++ [] = (x.l ++ []) ++ [n]
      rw [Iv.l_succ (by omega), List.append_nil, List.append_nil, ← e]
    · rename_i e
      have e : ¬ x.b = n - 1 := e
      rw [exI_app _ [(⟨n, n⟩ : Iv)], exI_one]
      refine ⟨rfl, IvS_app.2 ⟨h.mono (by omega) (Int.le_refl _), h1, Int.le_refl _, Int.le_refl _, fun y hy => ?_⟩⟩
      show y.b + 2 ≤ n
      rcases List.mem_append.1 hy with hy | hy
      · have := h6 y hy; omega
      · rcases List.mem_singleton.1 hy with rfl
        omega
/-- An interval that is not empty. -/
def keepI (a b : Int) : List Iv := if a ≤ b then [⟨a, b⟩] else []
def remI (l : List Iv) (n : Int) : List Iv := l.flatMap fun x => if n < x.a ∨ x.b < n then [x] else keepI x.a (n - 1) ++ keepI (n + 1) x.b
theorem remI_ok {hi n : Int} : ∀ {lo : Int} {l : List Iv}, IvS hi lo l → IvS hi lo (remI l n)
  | _, [], _ => trivial
  | lo, y :: t, ⟨h1, h2, h3, h4⟩ => by
    have ht := remI_ok (n := n) h4
    show IvS hi lo ((if n < y.a ∨ y.b < n then [y] else keepI y.a (n - 1) ++ keepI (n + 1) y.b) ++ remI t n)
    split
    · exact ⟨h1, h2, h3, ht⟩
    · rename_i hn
      unfold keepI
      by_cases c1 : y.a ≤ n - 1 <;> by_cases c2 : n + 1 ≤ y.b
      · rw [if_pos c1, if_pos c2]
        exact ⟨h1, c1, by show n - 1 ≤ hi; omega, by show n - 1 + 2 ≤ n + 1; omega, c2, h3, ht⟩
      · rw [if_pos c1, if_neg c2]
        exact ⟨h1, c1, by show n - 1 ≤ hi; omega, ht.mono (Int.le_refl _) (by show n - 1 + 2 ≤ y.b + 2; omega)⟩
      · rw [if_neg c1, if_pos c2]
        exact ⟨by show lo ≤ n + 1; omega, c2, h3, ht⟩
      · rw [if_neg c1, if_neg c2]
        exact ht.mono (Int.le_refl _) (by omega)
theorem exI_len : ∀ l : List Iv, (∀ x ∈ l, x.a ≤ x.b) → ((exI l).length : Int) = (l.map fun x => x.b - x.a + 1).sum
  | [], _ => rfl
  | y :: t, h => by
    have e := exI_len t (fun x hx => h x (List.mem_cons_of_mem _ hx))
    have := h y List.mem_cons_self
    show ((y.l ++ exI t).length : Int) = _
    rw [List.length_append, Iv.l_len, List.map_cons, List.sum_cons, ← e]
    omega
/-- The number behind n (0: there is none), and the one ahead of it. -/
def IsNext (L : List Int) (n v : Int) : Prop := (v ∈ L ∧ n < v ∧ ∀ k ∈ L, n < k → v ≤ k) ∨ (v = 0 ∧ ∀ k ∈ L, k ≤ n)
def IsPrev (L : List Int) (n v : Int) : Prop := (v ∈ L ∧ v < n ∧ ∀ k ∈ L, k < n → k ≤ v) ∨ (v = 0 ∧ ∀ k ∈ L, n ≤ k)
theorem IsNext.uniq {L : List Int} {n v u : Int} (h : IsNext L n v) (g : IsNext L n u) : v = u := by
  rcases h with ⟨h1, h2, h3⟩ | ⟨h1, h2⟩ <;> rcases g with ⟨g1, g2, g3⟩ | ⟨g1, g2⟩
  · have := h3 u g1 g2; have := g3 v h1 h2; omega
  · have := g2 v h1; omega
  · have := h2 u g1; omega
  · omega
theorem IsPrev.uniq {L : List Int} {n v u : Int} (h : IsPrev L n v) (g : IsPrev L n u) : v = u := by
  rcases h with ⟨h1, h2, h3⟩ | ⟨h1, h2⟩ <;> rcases g with ⟨g1, g2, g3⟩ | ⟨g1, g2⟩
  · have := h3 u g1 g2; have := g3 v h1 h2; omega
  · have := g2 v h1; omega
  · have := h2 u g1; omega
  · omega
theorem IvS.at {hi : Int} : ∀ {lo : Int} {l : List Iv}, IvS hi lo l → ∀ {i j : Nat} {x y : Iv}, l[i]? = some x → l[j]? = some y → i < j → x.b + 2 ≤ y.a
  | _, [], _, i, _, _, _, h, _, _ => by simp at h
  | lo, z :: t, ⟨h1, h2, h3, h4⟩, i, j, x, y, hx, hy, hij => by
    cases j with
    | zero => omega
    | succ j =>
      have hy : t[j]? = some y := by simpa using hy
      cases i with
      | zero =>
        have : z = x := by simpa using hx
        have := (h4.mem y (List.mem_of_getElem? hy)).1
        subst x; exact this
      | succ i => exact h4.at (by simpa using hx) hy (by omega)
/-- Where the numbers of the j-th interval begin. -/
def offI (l : List Iv) (j : Nat) : Nat := (exI (l.take j)).length
theorem offI_succ {l : List Iv} {j : Nat} {x : Iv} (h : l[j]? = some x) : offI l (j + 1) = offI l j + (x.b - x.a + 1).toNat := by
  obtain ⟨hj, rfl⟩ := List.getElem?_eq_some_iff.1 h
  unfold offI
  rw [List.take_succ_eq_append_getElem hj, exI_app, List.length_append]
  congr 1
  show ((l[j]).l ++ []).length = _
  rw [List.append_nil, Iv.l_len]
theorem offI_all (l : List Iv) : offI l l.length = (exI l).length := by unfold offI; rw [List.take_length]
theorem offI_mono {l : List Iv} : ∀ {i j : Nat}, i ≤ j → offI l i ≤ offI l j := by
  intro i j h
  unfold offI
  have : l.take j = l.take i ++ (l.take j).drop i := by
    have e : (l.take j).take i = l.take i := by rw [List.take_take]; congr 1; omega
    rw [← e, List.take_append_drop]
  rw [this, exI_app, List.length_append]
  omega
theorem remI_len (l : List Iv) (n : Int) : (remI l n).length ≤ 2 * l.length := by
  induction l with
  | nil => simp [remI]
  | cons x t ih =>
    have e : remI (x :: t) n = (if n < x.a ∨ x.b < n then [x] else keepI x.a (n - 1) ++ keepI (n + 1) x.b) ++ remI t n := rfl
    rw [e, List.length_append]
    have hk : ∀ a b : Int, (keepI a b).length ≤ 1 := fun a b => by unfold keepI; split <;> simp
    have : (if n < x.a ∨ x.b < n then [x] else keepI x.a (n - 1) ++ keepI (n + 1) x.b).length ≤ 2 := by
      split
      · simp
      · rw [List.length_append]
        have := hk x.a (n - 1); have := hk (n + 1) x.b
        omega
    rw [List.length_cons]
    omega

end Go.Proofs.YtgmmoghagpmpfaaGreatDoor

/- Chapter 27, plain: lists of keys and values in ascending order of the keys: put in, overwritten; against a map's entries in any order. No condition. -/
namespace Go.Proofs.YtgmmoghagpmpfaaGreatDoor

/-- Keys in ascending order. -/
def KSort {β : Type} (C : ByteArray → ByteArray → Int) (l : List (ByteArray × β)) : Prop := l.Pairwise fun p q => C p.1 q.1 < 0
def insA {β : Type} (C : ByteArray → ByteArray → Int) (l : List (ByteArray × β)) (k : ByteArray) (v : β) : List (ByteArray × β) :=
  l.takeWhile (fun p => decide (C p.1 k < 0)) ++ (k, v) :: l.dropWhile fun p => decide (C p.1 k < 0)
section
variable {β : Type} {C : ByteArray → ByteArray → Int}
theorem KSort.dis (hC : Ord3 C) {l : List (ByteArray × β)} (h : KSort C l) : l.Pairwise fun p q => p.1 ≠ q.1 := List.Pairwise.imp (fun {a b} h e => by rw [e, hC.self] at h; omega) h
theorem insA_perm (l : List (ByteArray × β)) (k : ByteArray) (v : β) : (insA C l k v).Perm (l ++ [(k, v)]) := by
  unfold insA
  refine List.perm_middle.trans ?_
  rw [List.takeWhile_append_dropWhile]
  exact (List.perm_append_comm (l₁ := [(k, v)]) (l₂ := l))
theorem insA_sort (hC : Ord3 C) (hE : ∀ a b, C a b = 0 → a = b) {l : List (ByteArray × β)} (h : KSort C l) {k : ByteArray} {v : β} (hn : ∀ p ∈ l, p.1 ≠ k) : KSort C (insA C l k v) := by
  induction l with
  | nil => exact List.pairwise_singleton _ _
  | cons x t ih =>
    have hx := List.pairwise_cons.1 h
    have iht := ih hx.2 (fun p hp => hn p (List.mem_cons_of_mem _ hp))
    unfold insA at iht ⊢
    by_cases c : C x.1 k < 0
    · rw [List.takeWhile_cons_of_pos (by simpa using c), List.dropWhile_cons_of_pos (by simpa using c)]
      refine List.pairwise_cons.2 ⟨fun y hy => ?_, iht⟩
      rcases List.mem_append.1 ((insA_perm (C := C) t k v).mem_iff.1 hy) with hy | hy
      · exact hx.1 y hy
      · rw [List.mem_singleton.1 hy]; exact c
    · rw [List.takeWhile_cons_of_neg (by simpa using c), List.dropWhile_cons_of_neg (by simpa using c)]
      have hk : C k x.1 < 0 := by
        have h0 : C x.1 k ≠ 0 := fun e => hn x List.mem_cons_self (hE _ _ e)
        have := hC.anti x.1 k
        omega
      refine List.pairwise_cons.2 ⟨fun y hy => ?_, h⟩
      rcases List.mem_cons.1 hy with rfl | hy
      · exact hk
      · exact hC.tlt _ _ _ hk (hx.1 y hy)
theorem aset_sort (hC : Ord3 C) {l : List (ByteArray × β)} (h : KSort C l) {k : ByteArray} {u v : β} (hg : aget l k = some u) : KSort C (aset l k v) := by
  obtain ⟨j, hj⟩ := List.getElem?_of_mem (aget_mem hg)
  rw [aset_old (h.dis hC) hj]
  have e : (l.set j (k, v)).map (·.1) = l.map (·.1) := by
    rw [List.map_set]
    have h0 : (l.map (·.1))[j]? = some k := by rw [List.getElem?_map, hj]; rfl
    obtain ⟨hj', e'⟩ := List.getElem?_eq_some_iff.1 h0
    show (l.map (·.1)).set j k = _
    rw [← e', List.set_getElem_self]
  have h1 : (l.map (·.1)).Pairwise fun a b => C a b < 0 := List.pairwise_map.2 h
  exact List.pairwise_map.1 (e ▸ h1)
theorem aget_perm {l m : List (ByteArray × β)} (hp : l.Perm m) (hd : l.Pairwise fun p q => p.1 ≠ q.1) (k : ByteArray) : aget l k = aget m k := by
  have hd' : m.Pairwise fun p q => p.1 ≠ q.1 := hp.pairwise hd (fun {x y} h => fun e => h e.symm)
  cases hl : aget l k with
  | none =>
    symm; rw [aget_none] at hl ⊢
    exact fun p hp' => hl p (hp.mem_iff.2 hp')
  | some v => exact (aget_at hd' (hp.mem_iff.1 (aget_mem hl))).symm
theorem perm_nodup {l : List (ByteArray × β)} (hd : l.Pairwise fun p q => p.1 ≠ q.1) : l.Nodup := hd.imp (fun {a b} h e => h (by rw [e]))
theorem aset_perm {l m : List (ByteArray × β)} (hp : l.Perm m) (hd : l.Pairwise fun p q => p.1 ≠ q.1) (k : ByteArray) (v : β) : (aset l k v).Perm (aset m k v) := by
  have hd' : m.Pairwise fun p q => p.1 ≠ q.1 := hp.pairwise hd (fun {x y} h => fun e => h e.symm)
  refine (List.perm_ext_iff_of_nodup (perm_nodup (aset_dis hd k v)) (perm_nodup (aset_dis hd' k v))).2 fun x => ?_
  have key : ∀ {l m : List (ByteArray × β)}, l.Perm m → (l.Pairwise fun p q => p.1 ≠ q.1) → (m.Pairwise fun p q => p.1 ≠ q.1) → x ∈ aset l k v → x ∈ aset m k v := by
    intro l m hp hd hd' hx
    have h1 := aget_at (aset_dis hd k v) hx
    rw [aget_aset, aget_perm hp hd] at h1
    have h2 : aget (aset m k v) x.1 = some x.2 := by rw [aget_aset]; exact h1
    exact aget_mem h2
  exact ⟨key hp hd hd', key hp.symm hd' hd⟩
theorem ins_perm {l m : List (ByteArray × β)} (hp : l.Perm m) {k : ByteArray} {v : β} (hn : aget l k = none) : (aset l k v).Perm (insA C m k v) := by
  rw [aset_new (aget_none.1 hn)]
  exact (hp.append_right _).trans (insA_perm m k v).symm
end

end Go.Proofs.YtgmmoghagpmpfaaGreatDoor

/- Chapter 27, plain: the table as a list of names in ascending order; Open, Close, Assign, Remove on it. No condition. -/
namespace Go.Proofs.YtgmmoghagpmpfaaGreatDoor

theorem ext27 {s t : ByteArray} (hs : s.size = t.size) (h : ∀ j, j < s.size → at8 s j = at8 t j) : s = t := ba_eq (List.ext_getElem? fun j => by
  rcases Nat.lt_or_ge j s.size with hj | hj
  · rw [at8_byte hj, at8_byte (by omega), h j hj]
  · rw [List.getElem?_eq_none (by simpa using hj), List.getElem?_eq_none (by rw [hs] at hj; simpa using hj)])
theorem partsD_ne27 (s : ByteArray) : partsD s ≠ [] := fun e => by
  have h := partsD_len (s := s)
  rw [e] at h; simp at h
theorem partsD_inj27 : ∀ (n : Nat) (s t : ByteArray), s.size ≤ n → partsD s = partsD t → s = t
  | n, s, t, hn, h => by
    have fs := findC_first 46 s
    have ft := findC_first 46 t
    by_cases hi : findC 46 s < s.size
    · by_cases hj : findC 46 t < t.size
      · rw [partsD_hit fs hi, partsD_hit ft hj] at h
        obtain ⟨h1, h2⟩ := List.cons.inj h
        cases n with
        | zero => omega
        | succ n =>
          have hz : (s.extract (findC 46 s + 1) s.size).size = s.size - (findC 46 s + 1) := by rw [ByteArray.size_extract]; omega
          have hz2 : (t.extract (findC 46 t + 1) t.size).size = t.size - (findC 46 t + 1) := by rw [ByteArray.size_extract]; omega
          have h3 := partsD_inj27 n _ _ (by omega) h2
          have z1 : (s.extract 0 (findC 46 s)).size = findC 46 s := by rw [ByteArray.size_extract]; omega
          have z2 : (t.extract 0 (findC 46 t)).size = findC 46 t := by rw [ByteArray.size_extract]; omega
          have ez : findC 46 s = findC 46 t := by rw [← z1, h1, z2]
          have e3 : s.size = t.size := by rw [h3] at hz; omega
          refine ext27 e3 fun j hj2 => ?_
          rcases Nat.lt_trichotomy j (findC 46 s) with hl | hl | hl
          · have a1 := at8_extract s 0 (findC 46 s) j (by omega) (by omega)
            have a2 := at8_extract t 0 (findC 46 t) j (by omega) (by omega)
            rw [Nat.zero_add] at a1 a2
            rw [← a1, ← a2, h1]
          · rw [hl, fs.2.2.2 hi, ez, ft.2.2.2 hj]
          · have a1 := at8_extract s (findC 46 s + 1) s.size (j - (findC 46 s + 1)) (by omega) (Nat.le_refl _)
            have a2 := at8_extract t (findC 46 t + 1) t.size (j - (findC 46 t + 1)) (by omega) (Nat.le_refl _)
            rw [show findC 46 s + 1 + (j - (findC 46 s + 1)) = j by omega] at a1
            rw [show findC 46 t + 1 + (j - (findC 46 t + 1)) = j by omega] at a2
            rw [← a1, ← a2, h3, ez]
      · rw [partsD_hit fs hi, partsD_miss ft hj] at h
        exact absurd (List.cons.inj h).2 (partsD_ne27 _)
    · by_cases hj : findC 46 t < t.size
      · rw [partsD_miss fs hi, partsD_hit ft hj] at h
        exact absurd (List.cons.inj h).2.symm (partsD_ne27 _)
      · rw [partsD_miss fs hi, partsD_miss ft hj] at h
        exact (List.cons.inj h).1
theorem gnC_ord : Ord3 gnC := lsC_ord
theorem gnC_eq (a b : ByteArray) (h : gnC a b = 0) : a = b := partsD_inj27 a.size a b (Nat.le_refl _) (lsC_zero _ _ h)
/-- A group: its highest number, whether it is closed, its numbers. -/
structure Gv where
  h : Int
  c : Bool
  l : List Iv
abbrev TA := List (ByteArray × Gv)
/-- A table as the operations make it. -/
structure WF (A : TA) : Prop where
  sort : KSort gnC A
  nm : ∀ p ∈ A, gnE p.1 = 0
  hi : ∀ p ∈ A, 0 ≤ p.2.h ∧ p.2.h ≤ 2147483646
  iv : ∀ p ∈ A, IvS p.2.h 1 p.2.l
theorem WF.dis {A : TA} (h : WF A) : A.Pairwise fun p q => p.1 ≠ q.1 := h.sort.dis gnC_ord
theorem WF.nil : WF [] := ⟨List.Pairwise.nil, (fun p h => by cases h), (fun p h => by cases h), (fun p h => by cases h)⟩
theorem WF.get {A : TA} (h : WF A) {s : ByteArray} {v : Gv} (hg : aget A s = some v) : gnE s = 0 ∧ 0 ≤ v.h ∧ v.h ≤ 2147483646 ∧ IvS v.h 1 v.l := by
  have hm := aget_mem hg
  exact ⟨h.nm _ hm, (h.hi _ hm).1, (h.hi _ hm).2, h.iv _ hm⟩
theorem WF.set {A : TA} (h : WF A) {s : ByteArray} {u v : Gv} (hg : aget A s = some u) (hh : 0 ≤ v.h ∧ v.h ≤ 2147483646) (hv : IvS v.h 1 v.l) : WF (aset A s v) := by
  have hs := (h.get hg).1
  refine ⟨aset_sort gnC_ord h.sort hg, fun p hp => ?_, fun p hp => ?_, fun p hp => ?_⟩
  all_goals
    rcases aset_keys s v p hp with rfl | ⟨hp, _⟩ | hp
  · exact hs
  · exact h.nm p hp
  · exact h.nm p hp
  · exact hh
  · exact h.hi p hp
  · exact h.hi p hp
  · exact hv
  · exact h.iv p hp
  · exact h.iv p hp
theorem WF.ins {A : TA} (h : WF A) {s : ByteArray} (hg : aget A s = none) (he : gnE s = 0) : WF (insA gnC A s ⟨0, false, []⟩) := by
  have hm : ∀ p ∈ insA gnC A s ⟨0, false, []⟩, p ∈ A ∨ p = (s, ⟨0, false, []⟩) := fun p hp => by
    rcases List.mem_append.1 ((insA_perm A s _).mem_iff.1 hp) with h | h
    · exact .inl h
    · exact .inr (List.mem_singleton.1 h)
  refine ⟨insA_sort gnC_ord gnC_eq h.sort (aget_none.1 hg), fun p hp => ?_, fun p hp => ?_, fun p hp => ?_⟩
  · rcases hm p hp with h1 | rfl
    · exact h.nm p h1
    · exact he
  · rcases hm p hp with h1 | rfl
    · exact h.hi p h1
    · exact ⟨Int.le_refl _, by show (0 : Int) ≤ 2147483646; omega⟩
  · rcases hm p hp with h1 | rfl
    · exact h.iv p h1
    · trivial
/-- Open, Close, Remove: the new table and the error. -/
def opA (A : TA) (s : ByteArray) : TA × Int :=
  if gnE s ≠ 0 then (A, gnE s) else match aget A s with
    | some v => if v.c = false then (A, 7) else (aset A s ⟨v.h, false, v.l⟩, 0)
    | none => if 4096 ≤ A.length then (A, 9) else (insA gnC A s ⟨0, false, []⟩, 0)
def clA (A : TA) (s : ByteArray) : TA × Int :=
  match aget A s with
    | some v => if v.c = true then (A, 10) else (aset A s ⟨v.h, true, v.l⟩, 0)
    | none => (A, 8)
def hasI (l : List Iv) (n : Int) : Bool := l.any fun x => decide (x.a ≤ n ∧ n ≤ x.b)
def rmA (A : TA) (s : ByteArray) (n : Int) : TA × Int :=
  match aget A s with
    | some v => if hasI v.l n = true then (aset A s ⟨v.h, v.c, remI v.l n⟩, 0) else (A, 8)
    | none => (A, 8)
/-- Assign: the first error; the new table; the numbers. -/
def asE (A : TA) : List ByteArray → Int
  | [] => 0
  | s :: r => match aget A s with
    | some v => if v.c = true then 10 else if 2147483646 ≤ v.h then 9 else asE A r
    | none => 8
def nxG (v : Gv) : Gv := ⟨v.h + 1, v.c, withI v.l (v.h + 1)⟩
def asS (A : TA) : List ByteArray → TA
  | [] => A
  | s :: r => match aget A s with
    | some v => asS (aset A s (nxG v)) r
    | none => A
def asN (A : TA) : List ByteArray → List Int
  | [] => []
  | s :: r => match aget A s with
    | some v => (v.h + 1) :: asN (aset A s (nxG v)) r
    | none => []
theorem asE_set {A : TA} {s : ByteArray} {v : Gv} : ∀ {r : List ByteArray}, s ∉ r → asE (aset A s v) r = asE A r
  | [], _ => rfl
  | t :: r, h => by
    have ht : s ≠ t := fun e => h (by rw [e]; exact List.mem_cons_self)
    have hr := asE_set (A := A) (s := s) (v := v) (r := r) (fun hm => h (List.mem_cons_of_mem _ hm))
    unfold asE
    rw [aget_aset, if_neg ht, hr]
theorem WF.nx {A : TA} (h : WF A) {s : ByteArray} {v : Gv} (hg : aget A s = some v) (hv : v.h < 2147483646) : WF (aset A s (nxG v)) := by
  obtain ⟨_, h1, h2, h3⟩ := h.get hg
  have := withI_ok (n := v.h + 1) (l := v.l) (by have e : v.h + 1 - 1 = v.h := by omega
                                                 rw [e]; exact h3) (by omega)
  exact h.set hg ⟨by show 0 ≤ v.h + 1; omega, by show v.h + 1 ≤ 2147483646; omega⟩ this.2
theorem wf_asS : ∀ {A : TA} {r : List ByteArray}, WF A → r.Nodup → asE A r = 0 → WF (asS A r)
  | _, [], h, _, _ => h
  | A, s :: r, h, hn, he => by
    obtain ⟨h1, h2⟩ := List.nodup_cons.1 hn
    unfold asE at he
    unfold asS
    cases hg : aget A s with
    | none => rw [hg] at he; simp only at he; omega
    | some v =>
      rw [hg] at he
      simp only at he ⊢
      split at he
      · exact absurd he (by decide)
      split at he
      · exact absurd he (by decide)
      exact wf_asS (h.nx hg (by omega)) h2 (by rw [asE_set h1]; exact he)
theorem wf_opA {A : TA} (h : WF A) (s : ByteArray) : WF (opA A s).1 := by
  unfold opA
  split
  · exact h
  · rename_i he
    have he : gnE s = 0 := by simpa using he
    split
    · rename_i v hg
      split
      · exact h
      · obtain ⟨_, h1, h2, h3⟩ := h.get hg
        exact h.set hg ⟨h1, h2⟩ h3
    · rename_i hg
      split
      · exact h
      · exact h.ins hg he
theorem wf_clA {A : TA} (h : WF A) (s : ByteArray) : WF (clA A s).1 := by
  unfold clA
  split
  · rename_i v hg
    split
    · exact h
    · obtain ⟨_, h1, h2, h3⟩ := h.get hg
      exact h.set hg ⟨h1, h2⟩ h3
  · exact h
theorem wf_rmA {A : TA} (h : WF A) (s : ByteArray) (n : Int) : WF (rmA A s n).1 := by
  unfold rmA
  split
  · rename_i v hg
    split
    · obtain ⟨_, h1, h2, h3⟩ := h.get hg
      exact h.set hg ⟨h1, h2⟩ (remI_ok h3)
    · exact h
  · exact h
theorem asS_get {s : ByteArray} : ∀ {r : List ByteArray} {A : TA}, s ∉ r → aget (asS A r) s = aget A s
  | [], _, _ => rfl
  | t :: r, A, h => by
    have ht : t ≠ s := fun e => h (by rw [e]; exact List.mem_cons_self)
    have hr : s ∉ r := fun hm => h (List.mem_cons_of_mem _ hm)
    unfold asS
    split
    · rw [asS_get hr, aget_aset, if_neg ht]
    · rfl
theorem asS_snoc {s : ByteArray} {v : Gv} : ∀ {r : List ByteArray} {A : TA}, r.Nodup → asE A r = 0 → aget (asS A r) s = some v → asS A (r ++ [s]) = aset (asS A r) s (nxG v)
  | [], A, _, _, h => by
    have h : aget A s = some v := h
    show (match aget A s with | some v => asS (aset A s (nxG v)) [] | none => A) = _
    rw [h]; rfl
  | t :: r, A, hn, he, h => by
    obtain ⟨h1, h2⟩ := List.nodup_cons.1 hn
    unfold asE at he
    unfold asS at h
    show (match aget A t with | some v => asS (aset A t (nxG v)) (r ++ [s]) | none => A) = _
    have e : asS A (t :: r) = (match aget A t with | some v => asS (aset A t (nxG v)) r | none => A) := by rw [asS]
    rw [e]
    cases hg : aget A t with
    | none => rw [hg] at he; simp only at he; omega
    | some u =>
      rw [hg] at he h
      simp only at he h ⊢
      split at he
      · omega
      split at he
      · omega
      exact asS_snoc h2 (by rw [asE_set h1]; exact he) h
theorem asN_snoc {s : ByteArray} {v : Gv} : ∀ {r : List ByteArray} {A : TA}, r.Nodup → asE A r = 0 → aget (asS A r) s = some v → asN A (r ++ [s]) = asN A r ++ [v.h + 1]
  | [], A, _, _, h => by
    have h : aget A s = some v := h
    show (match aget A s with | some v => (v.h + 1) :: asN (aset A s (nxG v)) [] | none => []) = _
    rw [h]; rfl
  | t :: r, A, hn, he, h => by
    obtain ⟨h1, h2⟩ := List.nodup_cons.1 hn
    unfold asE at he
    unfold asS at h
    show (match aget A t with | some v => (v.h + 1) :: asN (aset A t (nxG v)) (r ++ [s]) | none => []) = (match aget A t with | some v => (v.h + 1) :: asN (aset A t (nxG v)) r | none => []) ++ _
    cases hg : aget A t with
    | none => rw [hg] at he; simp only at he; omega
    | some u =>
      rw [hg] at he h
      simp only at he h ⊢
      split at he
      · omega
      split at he
      · omega
      rw [asN_snoc h2 (by rw [asE_set h1]; exact he) h]; rfl
theorem asE_snoc {A : TA} {s : ByteArray} : ∀ {r : List ByteArray}, asE A r = 0 → asE A (r ++ [s]) = match aget A s with | some v => if v.c = true then 10 else if 2147483646 ≤ v.h then 9 else 0 | none => 8
  | [], _ => rfl
  | t :: r, he => by
    unfold asE at he
    show (match aget A t with | some v => if v.c = true then 10 else if 2147483646 ≤ v.h then 9 else asE A (r ++ [s]) | none => 8) = _
    cases hg : aget A t with
    | none => rw [hg] at he; simp only at he; omega
    | some u =>
      rw [hg] at he
      simp only at he ⊢
      split at he
      · omega
      split at he
      · omega
      rename_i h1 h2
      rw [if_neg h1, if_neg h2]
      exact asE_snoc he
theorem asE_app {A : TA} : ∀ {r q : List ByteArray}, asE A r ≠ 0 → asE A (r ++ q) = asE A r
  | [], _, h => absurd rfl h
  | t :: r, q, h => by
    unfold asE at h
    show (match aget A t with | some v => if v.c = true then 10 else if 2147483646 ≤ v.h then 9 else asE A (r ++ q) | none => 8) = (match aget A t with | some v => if v.c = true then 10 else if 2147483646 ≤ v.h then 9 else asE A r | none => 8)
    cases hg : aget A t with
    | none => rfl
    | some u =>
      rw [hg] at h
      simp only at h ⊢
      split
      · rfl
      split
      · rfl
      rename_i h1 h2
      rw [if_neg h1, if_neg h2] at h
      exact asE_app h
theorem asE_take {A : TA} {l : List ByteArray} (h : asE A l = 0) (i : Nat) : asE A (l.take i) = 0 := by
  by_cases e : asE A (l.take i) = 0
  · exact e
  · have := asE_app (q := l.drop i) e
    rw [List.take_append_drop, h] at this
    exact absurd this.symm e
/-- Low, and how many numbers there are. -/
def lowI (v : Gv) : Int := match v.l with | x :: _ => x.a | [] => v.h + 1
def cntI (l : List Iv) : Int := (l.map fun x => x.b - x.a + 1).sum
theorem cntI_ref {v : Gv} (h : IvS v.h 1 v.l) : cntI v.l = ((exI v.l).length : Int) := (exI_len v.l (fun x hx => (h.mem x hx).2.1)).symm
theorem asS_at : ∀ {r : List ByteArray} {A : TA}, r.Nodup → asE A r = 0 → ∀ {i : Nat} {s : ByteArray}, r[i]? = some s → ∃ v, aget A s = some v ∧ v.c = false ∧ v.h < 2147483646 ∧ aget (asS A r) s = some (nxG v) ∧ (asN A r)[i]? = some (v.h + 1)
  | [], _, _, _, i, s, h => by simp at h
  | t :: r, A, hn, he, i, s, h => by
    obtain ⟨h1, h2⟩ := List.nodup_cons.1 hn
    unfold asE at he
    have e1 : asS A (t :: r) = (match aget A t with | some v => asS (aset A t (nxG v)) r | none => A) := by rw [asS]
    have e2 : asN A (t :: r) = (match aget A t with | some v => (v.h + 1) :: asN (aset A t (nxG v)) r | none => []) := by rw [asN]
    cases hg : aget A t with
    | none => rw [hg] at he; simp only at he; omega
    | some u =>
      rw [hg] at he e1 e2
      simp only at he e1 e2
      split at he
      · omega
      split at he
      · omega
      rename_i c1 c2
      rw [e1, e2]
      cases i with
      | zero =>
        have e : t = s := by simpa using h
        subst e
        exact ⟨u, hg, by simpa using c1, by omega, by rw [asS_get h1, aget_aset, if_pos rfl], rfl⟩
      | succ i =>
        have h : r[i]? = some s := by simpa using h
        obtain ⟨v, g1, g2, g3, g4, g5⟩ := asS_at (A := aset A t (nxG u)) h2 (by rw [asE_set h1]; exact he) h
        have hts : t ≠ s := fun e => h1 (by rw [e]; exact List.mem_of_getElem? h)
        rw [aget_aset, if_neg hts] at g1
        exact ⟨v, g1, g2, g3, g4, by simpa using g5⟩
theorem asN_len : ∀ {r : List ByteArray} {A : TA}, r.Nodup → asE A r = 0 → (asN A r).length = r.length
  | [], _, _, _ => rfl
  | t :: r, A, hn, he => by
    obtain ⟨h1, h2⟩ := List.nodup_cons.1 hn
    unfold asE at he
    have e2 : asN A (t :: r) = (match aget A t with | some v => (v.h + 1) :: asN (aset A t (nxG v)) r | none => []) := by rw [asN]
    cases hg : aget A t with
    | none => rw [hg] at he; simp only at he; omega
    | some u =>
      rw [hg] at he e2
      simp only at he e2
      split at he
      · omega
      split at he
      · omega
      rw [e2, List.length_cons, asN_len h2 (by rw [asE_set h1]; exact he), List.length_cons]
/-- Two tables that say the same of each name are the same. -/
theorem ksort_ext {A B : TA} (hA : KSort gnC A) (hB : KSort gnC B) (h : ∀ s, aget A s = aget B s) : A = B := by
  have dA := hA.dis gnC_ord
  have dB := hB.dis gnC_ord
  have hp : A.Perm B := (List.perm_ext_iff_of_nodup (perm_nodup dA) (perm_nodup dB)).2 fun x => by
    constructor
    · intro hx
      have := aget_at dA (show (x.1, x.2) ∈ A from hx)
      rw [h] at this
      exact aget_mem this
    · intro hx
      have := aget_at dB (show (x.1, x.2) ∈ B from hx)
      rw [← h] at this
      exact aget_mem this
  exact hp.eq_of_pairwise (fun a b _ _ h1 h2 => by
    have := gnC_ord.tlt _ _ _ h1 h2
    rw [gnC_ord.self] at this
    omega) hA hB
theorem aget_ins {A : TA} {s t : ByteArray} {v : Gv} (hd : A.Pairwise fun p q => p.1 ≠ q.1) (hs : aget A s = none) : aget (insA gnC A s v) t = if s = t then some v else aget A t := by
  have hp : (A ++ [(s, v)]).Perm (insA gnC A s v) := (insA_perm A s v).symm
  rw [← aset_new (aget_none.1 hs)] at hp
  rw [← aget_perm hp (aset_dis hd s v), aget_aset]
/-- What an operation on one name does to that name. -/
def opG (s : ByteArray) (full : Prop) [Decidable full] : Option Gv → Option Gv
  | some v => if gnE s ≠ 0 then some v else if v.c = false then some v else some ⟨v.h, false, v.l⟩
  | none => if gnE s ≠ 0 then none else if full then none else some ⟨0, false, []⟩
theorem opA_get {A : TA} (h : WF A) (s t : ByteArray) : aget (opA A s).1 t = if s = t then opG s (4096 ≤ A.length) (aget A s) else aget A t := by
  unfold opA
  by_cases he : gnE s ≠ 0
  · rw [if_pos he]
    split
    · rename_i e; subst e
      unfold opG
      cases aget A s with
      | none => simp only [if_pos he]
      | some v => simp only [if_pos he]
    · rfl
  · rw [if_neg he]
    cases hg : aget A s with
    | none =>
      simp only [opG]
      rw [if_neg he]
      split
      · split
        · rename_i e; subst e; exact hg
        · rfl
      · rw [aget_ins h.dis hg]
    | some v =>
      simp only [opG]
      rw [if_neg he]
      split
      · split
        · rename_i e; subst e; exact hg
        · rfl
      · rw [aget_aset]
def clG : Option Gv → Option Gv
  | some v => some ⟨v.h, true, v.l⟩
  | none => none
theorem clA_get {A : TA} (s t : ByteArray) : aget (clA A s).1 t = if s = t then clG (aget A s) else aget A t := by
  unfold clA
  cases hg : aget A s with
  | none =>
    simp only [clG]
    split
    · rename_i e; subst e; exact hg
    · rfl
  | some v =>
    simp only [clG]
    split
    · split
      · rename_i hc e; subst e; rw [hg, ← hc]
      · rfl
    · rw [aget_aset]
def rmG (n : Int) : Option Gv → Option Gv
  | some v => if hasI v.l n = true then some ⟨v.h, v.c, remI v.l n⟩ else some v
  | none => none
theorem rmA_get {A : TA} (s t : ByteArray) (n : Int) : aget (rmA A s n).1 t = if s = t then rmG n (aget A s) else aget A t := by
  unfold rmA
  cases hg : aget A s with
  | none =>
    simp only [rmG]
    split
    · rename_i e; subst e; exact hg
    · rfl
  | some v =>
    simp only [rmG]
    split
    · rw [aget_aset]
    · split
      · rename_i e; subst e; exact hg
      · rfl

end Go.Proofs.YtgmmoghagpmpfaaGreatDoor

/- Chapter 27, plain: the text of a table and its reading; each is the other's inverse. No program in sight. -/
namespace Go.Proofs.YtgmmoghagpmpfaaGreatDoor
open Go.RowKit

/-! ### Texts with a byte between them -/
def joinT (c : UInt8) : List ByteArray → ByteArray
  | [] => ⟨#[]⟩
  | x :: r => r.foldl (fun a y => a ++ ⟨#[c]⟩ ++ y) x
theorem joinT_snoc (c : UInt8) {l : List ByteArray} (h : l ≠ []) (y : ByteArray) : joinT c (l ++ [y]) = joinT c l ++ ⟨#[c]⟩ ++ y := by
  cases l with
  | nil => exact absurd rfl h
  | cons x r => show (r ++ [y]).foldl _ x = _; rw [List.foldl_append]; rfl
theorem joinT_fold (c : UInt8) : ∀ (r : List ByteArray) (a b : ByteArray), r.foldl (fun a y => a ++ ⟨#[c]⟩ ++ y) (a ++ b) = a ++ r.foldl (fun a y => a ++ ⟨#[c]⟩ ++ y) b
  | [], _, _ => rfl
  | y :: r, a, b => by
    rw [List.foldl_cons, List.foldl_cons, ← joinT_fold c r a]
    simp only [ByteArray.append_assoc]
theorem joinT_cons (c : UInt8) (x y : ByteArray) (r : List ByteArray) : joinT c (x :: y :: r) = x ++ ⟨#[c]⟩ ++ joinT c (y :: r) := by
  show r.foldl _ (x ++ ⟨#[c]⟩ ++ y) = _
  rw [joinT_fold]; rfl
/-- A text without the byte c. -/
def NoC (c : UInt8) (s : ByteArray) : Prop := ∀ j, j < s.size → at8 s j ≠ (c.toNat : Int)
theorem NoC.app {c : UInt8} {a b : ByteArray} (ha : NoC c a) (hb : NoC c b) : NoC c (a ++ b) := at8_app_no ha hb
theorem NoC.one {c d : UInt8} (h : d ≠ c) : NoC c ⟨#[d]⟩ := one_no (fun e => h (by
  have : d.toNat = c.toNat := by omega
  exact UInt8.toNat_inj.1 this))
theorem NoC.join {c d : UInt8} (h : d ≠ c) : ∀ (l : List ByteArray), (∀ x ∈ l, NoC c x) → NoC c (joinT d l)
  | [], _ => fun j hj => absurd hj (Nat.not_lt_zero _)
  | [x], hl => hl x List.mem_cons_self
  | x :: y :: r, hl => by
    rw [joinT_cons]
    exact ((hl x List.mem_cons_self).app (.one h)).app (NoC.join h (y :: r) (fun z hz => hl z (List.mem_cons_of_mem _ hz)))
theorem ext_cut {c : UInt8} {s : ByteArray} {i : Nat} (h : FirstC c s 0 i) (hi : i < s.size) : s.extract 0 i ++ ⟨#[c]⟩ ++ s.extract (i + 1) s.size = s := by
  have z1 : (s.extract 0 i).size = i := by rw [ByteArray.size_extract]; omega
  have z2 : (s.extract (i + 1) s.size).size = s.size - (i + 1) := by rw [ByteArray.size_extract]; omega
  have z3 : (s.extract 0 i ++ ⟨#[c]⟩ : ByteArray).size = i + 1 := by rw [ByteArray.size_append, z1, size_one]
  have z4 : (s.extract 0 i ++ ⟨#[c]⟩ ++ s.extract (i + 1) s.size : ByteArray).size = s.size := by rw [ByteArray.size_append, z3, z2]; omega
  refine ext27 z4 fun j hj => ?_
  rw [z4] at hj
  rcases Nat.lt_trichotomy j i with hl | hl | hl
  · rw [at8_left (by omega), at8_left (by omega), at8_extract s 0 i j (by omega) (by omega), Nat.zero_add]
  · subst hl
    have := at8_right (a := s.extract 0 j) (b := ⟨#[c]⟩) (j := 0) (by rw [size_one]; omega)
    rw [at8_left (by omega)]
    rw [z1, Nat.add_zero] at this
    rw [this, at8_one, h.2.2.2 hi]
  · have := at8_right (a := s.extract 0 i ++ ⟨#[c]⟩) (b := s.extract (i + 1) s.size) (j := j - (i + 1)) (by omega)
    rw [z3, show i + 1 + (j - (i + 1)) = j by omega] at this
    rw [this, at8_extract s (i + 1) s.size (j - (i + 1)) (by omega) (Nat.le_refl _), show i + 1 + (j - (i + 1)) = j by omega]
theorem partsC_ind {c : UInt8} {P : ByteArray → List ByteArray → Prop} (h0 : ∀ s, ¬ findC c s < s.size → P s [s])
    (h1 : ∀ s, findC c s < s.size → P (s.extract (findC c s + 1) s.size) (partsC c (s.extract (findC c s + 1) s.size)) → P s (s.extract 0 (findC c s) :: partsC c (s.extract (findC c s + 1) s.size))) : ∀ (n : Nat) (s : ByteArray), s.size ≤ n → P s (partsC c s)
  | n, s, hn => by
    by_cases hi : findC c s < s.size
    · rw [partsC_hit (findC_first c s) hi]
      cases n with
      | zero => omega
      | succ n => exact h1 s hi (partsC_ind h0 h1 n _ (by rw [ByteArray.size_extract]; omega))
    · rw [partsC_miss (findC_first c s) hi]
      exact h0 s hi
theorem partsC_ne (c : UInt8) (s : ByteArray) : partsC c s ≠ [] := partsC_ind (P := fun _ l => l ≠ []) (fun s _ => by simp) (fun s _ _ => by simp) s.size s (Nat.le_refl _)
theorem join_parts (c : UInt8) (s : ByteArray) : joinT c (partsC c s) = s := by
  refine partsC_ind (P := fun s l => joinT c l = s) (fun s _ => rfl) (fun s hi ih => ?_) s.size s (Nat.le_refl _)
  have hne := partsC_ne c (s.extract (findC c s + 1) s.size)
  cases hp : partsC c (s.extract (findC c s + 1) s.size) with
  | nil => exact absurd hp hne
  | cons y r =>
    rw [hp] at ih
    rw [joinT_cons, ih]
    exact ext_cut (findC_first c s) hi
theorem parts_size (c : UInt8) (s : ByteArray) : ∀ x ∈ partsC c s, x.size ≤ s.size := by
  refine partsC_ind (P := fun s l => ∀ x ∈ l, x.size ≤ s.size) (fun s hi x hx => ?_) (fun s hi ih x hx => ?_) s.size s (Nat.le_refl _)
  · rw [List.mem_singleton.1 hx]; exact Nat.le_refl _
  · rcases List.mem_cons.1 hx with rfl | hx
    · rw [ByteArray.size_extract]; omega
    · have := ih x hx
      rw [ByteArray.size_extract] at this; omega
theorem parts_len (c : UInt8) (s : ByteArray) : (partsC c s).length ≤ s.size + 1 := by
  refine partsC_ind (P := fun s l => l.length ≤ s.size + 1) (fun s hi => by simp) (fun s hi ih => ?_) s.size s (Nat.le_refl _)
  rw [List.length_cons]
  rw [ByteArray.size_extract] at ih; omega

/-! ### Numbers -/
def decI (x : Int) : ByteArray := ⟨(Lib.itoa x).toArray⟩
theorem decI_T {x : Int} (h : 0 ≤ x) : decI x = decT x.toNat := by
  unfold decI decT
  obtain ⟨n, rfl⟩ := Int.eq_ofNat_of_zero_le h
  rw [Lib.itoa_nonneg]; rfl
theorem dec_dig {x : Int} (h : 0 ≤ x) : 0 < (decI x).size ∧ ∀ j, j < (decI x).size → 48 ≤ at8 (decI x) j ∧ at8 (decI x) j ≤ 57 := by
  rw [decI_T h]
  obtain ⟨⟨h1, h2, _⟩, _⟩ := decT_ok x.toNat
  exact ⟨h1, h2⟩
theorem num_canon : ∀ (n : Nat) (s : ByteArray), s.size = n → NumOK s → decT (nvF s s.size).toNat = s
  | 0, s, hn, h => absurd h.1 (by omega)
  | n + 1, s, hn, h => by
    obtain ⟨h0, hd, hz⟩ := h
    have hdn := hd n (by omega)
    have bl : UInt8.ofNat (48 + (at8 s n - 48).toNat) = s[n]'(by omega) := by
      rw [at8_lt s n (by omega)]
      rw [at8_lt s n (by omega)] at hdn
      rw [show 48 + ((s[n]'(by omega)).toNat - 48 : Int).toNat = (s[n]'(by omega)).toNat by omega]
      exact UInt8.ofNat_toNat
    have el : at8 (⟨#[s[n]'(by omega)]⟩ : ByteArray) 0 = at8 s n := by rw [at8_one, at8_lt s n (by omega)]
    have es : s.extract 0 n ++ ⟨#[s[n]'(by omega)]⟩ = s := by
      have z1 : (s.extract 0 n).size = n := by rw [ByteArray.size_extract]; omega
      have z2 : (s.extract 0 n ++ ⟨#[s[n]'(by omega)]⟩ : ByteArray).size = s.size := by rw [ByteArray.size_append, z1, size_one]; omega
      refine ext27 z2 fun j hj => ?_
      rw [z2] at hj
      rcases Nat.lt_or_ge j n with hl | hl
      · rw [at8_left (by omega), at8_extract s 0 n j (by omega) (by omega), Nat.zero_add]
      · obtain rfl : j = n := by omega
        have := at8_right (a := s.extract 0 j) (b := ⟨#[s[j]'(by omega)]⟩) (j := 0) (by rw [size_one]; omega)
        rw [z1, Nat.add_zero] at this
        rw [this, el]
    have hv : nvF s s.size = 10 * nvF s n + (at8 s n - 48) := by rw [hn]; rfl
    rw [hv]
    cases n with
    | zero =>
      have e0 : nvF s 0 = 0 := rfl
      rw [e0, show (10 * 0 + (at8 s 0 - 48) : Int) = at8 s 0 - 48 by omega, decT_small (by omega), bl]
      have : s.extract 0 0 = (⟨#[]⟩ : ByteArray) := by
        apply ByteArray.ext
        simp
      rw [this] at es
      have e2 : (⟨#[]⟩ : ByteArray) ++ ⟨#[s[0]'(by omega)]⟩ = ⟨#[s[0]'(by omega)]⟩ := by
        apply ByteArray.ext
        rw [ByteArray.data_append]
        simp
      exact e2.symm.trans es
    | succ n =>
      have h1 : at8 s 0 ≠ 48 := hz (by omega)
      have h1d := hd 0 (by omega)
      have hm := nvF_mono hd 1 n (by omega)
      have e1 : nvF s 1 = 10 * 0 + (at8 s 0 - 48) := rfl
      rw [e1, show 1 + n = n + 1 by omega] at hm
      have z1 : (s.extract 0 (n + 1)).size = n + 1 := by rw [ByteArray.size_extract]; omega
      have ea : ∀ j, j < n + 1 → at8 (s.extract 0 (n + 1)) j = at8 s j := fun j hj => by
        rw [at8_extract s 0 (n + 1) j (by omega) (by omega), Nat.zero_add]
      have hok : NumOK (s.extract 0 (n + 1)) := ⟨by omega, fun i hi => by rw [ea i (by omega)]; exact hd i (by omega), fun _ => by rw [ea 0 (by omega)]; exact h1⟩
      have ih := num_canon (n + 1) (s.extract 0 (n + 1)) z1 hok
      have en : nvF (s.extract 0 (n + 1)) (s.extract 0 (n + 1)).size = nvF s (n + 1) := by
        have := nvF_left (a := s.extract 0 (n + 1)) (b := ⟨#[s[n + 1]'(by omega)]⟩) (n + 1) (by omega)
        rw [es] at this
        rw [z1, ← this]
      rw [en] at ih
      rw [decT_big (by omega), show (10 * nvF s (n + 1) + (at8 s (n + 1) - 48)).toNat / 10 = (nvF s (n + 1)).toNat by omega, ih,
        show (10 * nvF s (n + 1) + (at8 s (n + 1) - 48)).toNat % 10 = (at8 s (n + 1) - 48).toNat by omega, bl]
      exact es
theorem numR_ok {s : ByteArray} {m : Int} (h : (numR s m).2 = 0) : NumOK s ∧ 0 ≤ (numR s m).1 ∧ (numR s m).1 ≤ m ∧ decI (numR s m).1 = s := by
  unfold numR at h ⊢
  split at h
  · rename_i hok
    split at h
    · cases h
    · rename_i hm
      split at h
      · rename_i hle
        have hn := nvF_nonneg hok.2.1 s.size (Nat.le_refl _)
        rw [if_pos hok, if_neg hm, if_pos hle]
        exact ⟨hok, hn, hle, by rw [decI_T hn]; exact num_canon _ s rfl hok⟩
      · cases h
  · cases h

/-! ### The text of a table -/
def ivT (x : Iv) : ByteArray := if x.a < x.b then decI x.a ++ ⟨#[45]⟩ ++ decI x.b else decI x.a
def rngT (l : List Iv) : ByteArray := joinT 44 (l.map ivT)
def ynT (c : Bool) : ByteArray := if c = true then ⟨#[110]⟩ else ⟨#[121]⟩
def wdT (s : ByteArray) (v : Gv) : List ByteArray := match v.l with
  | [] => [s, decI v.h, ynT v.c]
  | _ :: _ => [s, decI v.h, ynT v.c, rngT v.l]
def lnT (p : ByteArray × Gv) : ByteArray := joinT 32 (wdT p.1 p.2) ++ ⟨#[10]⟩
def prT (A : TA) : ByteArray := A.foldl (fun t p => t ++ lnT p) ⟨#[]⟩
theorem prT_fold : ∀ (A : TA) (t : ByteArray), A.foldl (fun t p => t ++ lnT p) t = t ++ prT A
  | [], t => by show t = t ++ ByteArray.empty; simp
  | p :: A, t => by
    show A.foldl _ (t ++ lnT p) = t ++ A.foldl _ (ByteArray.empty ++ lnT p)
    rw [prT_fold A, prT_fold A]
    simp [ByteArray.append_assoc]
theorem prT_cons (p : ByteArray × Gv) (A : TA) : prT (p :: A) = lnT p ++ prT A := by
  show A.foldl _ (ByteArray.empty ++ lnT p) = _
  rw [prT_fold]; simp
theorem prT_snoc (A : TA) (p : ByteArray × Gv) : prT (A ++ [p]) = prT A ++ lnT p := by
  unfold prT
  rw [List.foldl_append]; rfl

/-! ### The reading of a text -/
def ivP (s : ByteArray) (hi : Int) : Option Iv :=
  if findC 45 s < s.size then
    if (numR (s.extract 0 (findC 45 s)) hi).2 = 0 ∧ (numR (s.extract (findC 45 s + 1) s.size) hi).2 = 0 ∧ (numR (s.extract 0 (findC 45 s)) hi).1 < (numR (s.extract (findC 45 s + 1) s.size) hi).1
    then some ⟨(numR (s.extract 0 (findC 45 s)) hi).1, (numR (s.extract (findC 45 s + 1) s.size) hi).1⟩ else none
  else if (numR s hi).2 = 0 then some ⟨(numR s hi).1, (numR s hi).1⟩ else none
def ivL (hi : Int) : List ByteArray → Int → Option (List Iv)
  | [], _ => some []
  | p :: r, n => match ivP p hi with
    | some x => if n ≤ x.a then (ivL hi r (x.b + 2)).map (x :: ·) else none
    | none => none
def lineW (a b c : ByteArray) (d : Option ByteArray) (bf : ByteArray) : (ByteArray × Gv) ⊕ Int :=
  if gnE a ≠ 0 then .inr (gnE a) else if bf.size ≠ 0 ∧ 0 ≤ gnC bf a then .inr 30 else if (numR b 2147483646).2 ≠ 0 then .inr 2 else if c ≠ ⟨#[121]⟩ ∧ c ≠ ⟨#[110]⟩ then .inr 3 else
  match d with
  | none => .inl (a, ⟨(numR b 2147483646).1, decide (c = ⟨#[110]⟩), []⟩)
  | some d => match ivL (numR b 2147483646).1 (partsC 44 d) 1 with
    | some l => .inl (a, ⟨(numR b 2147483646).1, decide (c = ⟨#[110]⟩), l⟩)
    | none => .inr 3
def lineA (s bf : ByteArray) : (ByteArray × Gv) ⊕ Int :=
  match partsC 32 s with
  | [a, b, c] => if a.size = 0 ∨ b.size = 0 ∨ c.size = 0 then .inr 3 else lineW a b c none bf
  | [a, b, c, d] => if a.size = 0 ∨ b.size = 0 ∨ c.size = 0 ∨ d.size = 0 then .inr 3 else lineW a b c (some d) bf
  | _ => .inr 3
def parseA : Nat → ByteArray → Nat → ByteArray → TA → TA ⊕ (Nat × Int)
  | 0, _, n, _, _ => .inr (n, 4)
  | f + 1, s, n, bf, acc => if s.size = 0 then .inl acc else if ¬ findC 10 s < s.size then .inr (n, 4) else
    match lineA (s.extract 0 (findC 10 s)) bf with
    | .inr e => .inr (n, e)
    | .inl g => if 4096 < n then .inr (n, 9) else parseA f (s.extract (findC 10 s + 1) s.size) (n + 1) g.1 (acc ++ [g])
def parseT (s : ByteArray) : TA ⊕ (Nat × Int) := parseA (s.size + 1) s 1 ⟨#[]⟩ []

/-! ### A name has no blank -/
theorem compC_no {c : Int} (h : compC c = true) : c ≠ 32 ∧ c ≠ 10 := by
  unfold compC lowC at h
  simp only [Bool.or_eq_true, Bool.and_eq_true, decide_eq_true_eq, beq_iff_eq] at h
  omega
theorem compB_at {s : ByteArray} (h : compB s = true) : 0 < s.size ∧ ∀ j, j < s.size → compC (at8 s j) = true := by
  unfold compB at h
  simp only [Bool.and_eq_true, decide_eq_true_eq, List.all_eq_true, List.mem_range] at h
  exact ⟨h.1.1.1, h.2⟩
theorem name_no {s : ByteArray} (h : gnE s = 0) : 0 < s.size ∧ NoC 32 s ∧ NoC 10 s := by
  unfold gnE at h
  split at h
  · cases h
  split at h
  · cases h
  rename_i h1
  have hall : ∀ x ∈ partsC 46 s, compB x = true := fun x hx => by
    have : ¬ (partsD s).any (fun x => !compB x) = true := h1
    rw [List.any_eq_true] at this
    by_cases hc : compB x = true
    · exact hc
    · exact absurd ⟨x, hx, by simpa using hc⟩ this
  have hj := join_parts 46 s
  have hn : ∀ c : UInt8, (∀ x : Int, compC x = true → x ≠ (c.toNat : Int)) → (46 : UInt8) ≠ c → NoC c s := fun c hc h46 => by
    have := NoC.join h46 (partsC 46 s) (fun x hx j hj => hc _ ((compB_at (hall x hx)).2 j hj))
    rwa [hj] at this
  refine ⟨?_, hn 32 (fun x hx => (compC_no hx).1) (by decide), hn 10 (fun x hx => (compC_no hx).2) (by decide)⟩
  rcases Nat.eq_zero_or_pos s.size with h0 | h0
  · exfalso
    have hm : partsC 46 s = [s] := partsC_miss (findC_first 46 s) (by omega)
    have := (compB_at (hall s (by rw [hm]; exact List.mem_singleton.2 rfl))).1
    omega
  · exact h0

/-! ### What is printed reads as it -/
theorem ivT_pos {x : Iv} (h : 0 ≤ x.a) : 0 < (ivT x).size := by
  unfold ivT
  have := (dec_dig h).1
  split
  · simp only [ByteArray.size_append, size_one]; omega
  · exact this
/-- A line of a table. -/
structure LnOK (s : ByteArray) (v : Gv) : Prop where
  nm : gnE s = 0
  h0 : 0 ≤ v.h
  hi : v.h ≤ 2147483646
  iv : IvS v.h 1 v.l
theorem WF.ln {A : TA} (h : WF A) {p : ByteArray × Gv} (hp : p ∈ A) : LnOK p.1 p.2 := ⟨h.nm p hp, (h.hi p hp).1, (h.hi p hp).2, h.iv p hp⟩
/-! ### What is read is printed again -/
theorem ivP_ok {s : ByteArray} {hi : Int} {x : Iv} (h : ivP s hi = some x) : 0 ≤ x.a ∧ x.a ≤ x.b ∧ x.b ≤ hi ∧ ivT x = s := by
  unfold ivP at h
  split at h
  · rename_i hk
    split at h
    · rename_i hh
      obtain ⟨h1, h2, h3⟩ := hh
      obtain ⟨_, a1, a2, a3⟩ := numR_ok h1
      obtain ⟨_, b1, b2, b3⟩ := numR_ok h2
      cases h
      refine ⟨a1, by show (numR _ hi).1 ≤ (numR _ hi).1; omega, b2, ?_⟩
      unfold ivT
      rw [if_pos h3]
      show decI (numR _ hi).1 ++ ⟨#[45]⟩ ++ decI (numR _ hi).1 = s
      rw [a3, b3]
      exact ext_cut (findC_first 45 s) hk
    · cases h
  · split at h
    · rename_i h1
      obtain ⟨_, a1, a2, a3⟩ := numR_ok h1
      cases h
      refine ⟨a1, Int.le_refl _, a2, ?_⟩
      unfold ivT
      rw [if_neg (by show ¬ (numR s hi).1 < (numR s hi).1; omega)]
      exact a3
    · cases h
theorem ivL_ok {hi : Int} : ∀ {l : List ByteArray} {n : Int} {m : List Iv}, ivL hi l n = some m → IvS hi n m ∧ m.map ivT = l
  | [], n, m, h => by
    cases h
    exact ⟨trivial, rfl⟩
  | p :: r, n, m, h => by
    have h : (match ivP p hi with | some x => if n ≤ x.a then (ivL hi r (x.b + 2)).map (x :: ·) else none | none => none) = some m := h
    cases hp : ivP p hi with
    | none => rw [hp] at h; cases h
    | some x =>
      rw [hp] at h
      simp only at h
      split at h
      · rename_i hn
        cases hr : ivL hi r (x.b + 2) with
        | none => rw [hr] at h; cases h
        | some t =>
          rw [hr] at h
          cases h
          obtain ⟨g1, g2⟩ := ivL_ok hr
          obtain ⟨p1, p2, p3, p4⟩ := ivP_ok hp
          exact ⟨⟨hn, p2, p3, g1⟩, by rw [List.map_cons, p4, g2]⟩
      · cases h
theorem ynT_of {c : ByteArray} (h : ¬ (c ≠ ⟨#[121]⟩ ∧ c ≠ ⟨#[110]⟩)) : ynT (decide (c = ⟨#[110]⟩)) = c := by
  unfold ynT
  by_cases hc : c = ⟨#[110]⟩
  · rw [if_pos (by simpa using hc), hc]
  · rw [if_neg (by simpa using hc)]
    exact (Classical.byContradiction fun h2 => h ⟨fun e => h2 e.symm, hc⟩)
theorem lineW_ok {a b c bf : ByteArray} {d : Option ByteArray} {g : ByteArray × Gv} (h : lineW a b c d bf = .inl g) : LnOK g.1 g.2 ∧ g.1 = a ∧ (bf.size ≠ 0 → gnC bf a < 0) ∧ wdT g.1 g.2 = [a, b, c] ++ d.toList := by
  unfold lineW at h
  split at h
  · cases h
  rename_i h1
  have h1 : gnE a = 0 := by simpa using h1
  split at h
  · cases h
  rename_i h2
  split at h
  · cases h
  rename_i h3
  have h3 : (numR b 2147483646).2 = 0 := by simpa using h3
  obtain ⟨_, n1, n2, n3⟩ := numR_ok h3
  split at h
  · cases h
  rename_i h4
  have h4 := ynT_of h4
  have hb : bf.size ≠ 0 → gnC bf a < 0 := fun hs => by
    rcases Int.lt_or_le (gnC bf a) 0 with hl | hl
    · exact hl
    · exact absurd ⟨hs, hl⟩ h2
  cases d with
  | none =>
    cases h
    refine ⟨⟨h1, n1, n2, trivial⟩, rfl, hb, ?_⟩
    show [a, decI (numR b 2147483646).1, ynT (decide (c = ⟨#[110]⟩))] = _
    rw [n3, h4]; rfl
  | some d =>
    simp only at h
    cases hl : ivL (numR b 2147483646).1 (partsC 44 d) 1 with
    | none => rw [hl] at h; cases h
    | some l =>
      rw [hl] at h
      cases h
      obtain ⟨g1, g2⟩ := ivL_ok hl
      refine ⟨⟨h1, n1, n2, g1⟩, rfl, hb, ?_⟩
      cases l with
      | nil => exact absurd g2.symm (by simpa using partsC_ne 44 d)
      | cons x r =>
        show [a, decI (numR b 2147483646).1, ynT (decide (c = ⟨#[110]⟩)), rngT (x :: r)] = _
        have : rngT (x :: r) = d := by unfold rngT; rw [g2, join_parts]
        rw [n3, h4, this]; rfl
theorem lineA_ok {s bf : ByteArray} {g : ByteArray × Gv} (h : lineA s bf = .inl g) : LnOK g.1 g.2 ∧ (bf.size ≠ 0 → gnC bf g.1 < 0) ∧ joinT 32 (wdT g.1 g.2) = s := by
  unfold lineA at h
  have hj := join_parts 32 s
  split at h
  · rename_i a b c hp
    split at h
    · cases h
    · obtain ⟨h1, h2, h3, h4⟩ := lineW_ok h
      rw [hp] at hj
      exact ⟨h1, by rw [h2]; exact h3, by rw [h4]; exact hj⟩
  · rename_i a b c d hp
    split at h
    · cases h
    · obtain ⟨h1, h2, h3, h4⟩ := lineW_ok h
      rw [hp] at hj
      exact ⟨h1, by rw [h2]; exact h3, by rw [h4]; exact hj⟩
  · cases h
theorem ksort_snoc {A : TA} {g : ByteArray × Gv} (h : KSort gnC A) (hb : ∀ p, A.getLast? = some p → gnC p.1 g.1 < 0) : KSort gnC (A ++ [g]) := by
  refine List.pairwise_append.2 ⟨h, List.pairwise_singleton _ _, fun p hp q hq => ?_⟩
  rw [List.mem_singleton.1 hq]
  rcases List.eq_nil_or_concat A with e | ⟨t, z, e⟩
  · rw [e] at hp; cases hp
  · have e : A = t ++ [z] := by rw [e]; simp
    have hz := hb z (by rw [e]; simp)
    rw [e] at hp h
    rcases List.mem_append.1 hp with hp | hp
    · exact gnC_ord.tlt _ _ _ ((List.pairwise_append.1 h).2.2 p hp z (List.mem_singleton.2 rfl)) hz
    · rw [List.mem_singleton.1 hp]; exact hz
theorem parseA_ok : ∀ (f : Nat) (s : ByteArray) (bf : ByteArray) (acc A : TA), parseA f s (acc.length + 1) bf acc = .inl A → WF acc → acc.length ≤ 4096 → (∀ p, acc.getLast? = some p → bf = p.1) →
    WF A ∧ A.length ≤ 4096 ∧ prT A = prT acc ++ s
  | 0, s, bf, acc, A, h, _, _, _ => by cases h
  | f + 1, s, bf, acc, A, h, hw, hl, hb => by
    unfold parseA at h
    split at h
    · rename_i h0
      cases h
      refine ⟨hw, hl, ?_⟩
      have : s = ByteArray.empty := by
        apply ByteArray.ext
        exact Array.eq_empty_of_size_eq_zero h0
      rw [this]; simp
    split at h
    · cases h
    rename_i hk
    have hk : findC 10 s < s.size := Classical.byContradiction hk
    split at h
    · cases h
    rename_i g hg
    split at h
    · cases h
    rename_i hn
    obtain ⟨g1, g2, g3⟩ := lineA_ok hg
    have hws : KSort gnC (acc ++ [g]) := ksort_snoc hw.sort (fun p hp => by
      rw [← hb p hp]
      refine g2 (fun e => ?_)
      have hm := List.mem_of_getLast? hp
      have := (name_no (hw.nm p hm)).1
      rw [hb p hp] at e
      omega)
    have hm : ∀ {p}, p ∈ acc ++ [g] → p ∈ acc ∨ p = g := fun hp => by
      rcases List.mem_append.1 hp with h | h
      · exact .inl h
      · exact .inr (List.mem_singleton.1 h)
    have hw2 : WF (acc ++ [g]) := ⟨hws, fun p hp => by rcases hm hp with h | rfl; exact hw.nm p h; exact g1.nm, fun p hp => by rcases hm hp with h | rfl; exact hw.hi p h; exact ⟨g1.h0, g1.hi⟩, fun p hp => by rcases hm hp with h | rfl; exact hw.iv p h; exact g1.iv⟩
    have e1 : acc.length + 1 + 1 = (acc ++ [g]).length + 1 := by simp
    rw [e1] at h
    obtain ⟨r1, r2, r3⟩ := parseA_ok f _ _ _ _ h hw2 (by simp; omega) (fun p hp => by simp at hp; rw [hp])
    refine ⟨r1, r2, ?_⟩
    rw [r3, prT_snoc]
    unfold lnT
    rw [g3, ByteArray.append_assoc, ext_cut (findC_first 10 s) hk]
theorem parse_ok {s : ByteArray} {A : TA} (h : parseT s = .inl A) : WF A ∧ A.length ≤ 4096 ∧ prT A = s := by
  obtain ⟨h1, h2, h3⟩ := parseA_ok (s.size + 1) s ⟨#[]⟩ [] A h WF.nil (Nat.zero_le _) (fun p hp => by cases hp)
  refine ⟨h1, h2, ?_⟩
  rw [h3]
  show ByteArray.empty ++ s = s
  simp

end Go.Proofs.YtgmmoghagpmpfaaGreatDoor

/- The contracts of (*strings.Builder).copyCheck, WriteString (written since it was made, never read) and String. Texts of at most 2^47 bytes. -/
namespace Go.Proofs.YtgmmoghagpmpfaaGreatDoor
open Go.RowKit

set_option maxHeartbeats 1000000 in
set_option maxRecDepth 100000 in
theorem bcheck_used (b : Nat) (w : World) (h0 : w.cell? ⟨b, 0, none⟩ = some (.pointer (some ⟨b, 0, none⟩))) :
    Calls Tryz.prog 77 #[.pointer (some ⟨b, 0, none⟩)] w fun e w' => e = .returned (.tuple #[]) ∧ w' = w := by
  have hX : (Tryz.prog.info? 109).map (·.size) = some 2 := by kernel_rfl
  obtain ⟨j, hj, _⟩ := Option.map_eq_some_iff.1 hX
  go_enter Tryz.func77, Tryz.ntmps77
  go_wp2
  rw [Lib.run_neq_ptr_same w _ Tryz.underlying106 hj]
  go_wp2
  go_end0
  exact ⟨rfl, rfl⟩
set_option maxHeartbeats 1000000 in
set_option maxRecDepth 100000 in
theorem bcheck_fresh (b : Nat) (w : World) (h0 : w.cell? ⟨b, 0, none⟩ = some (.pointer none)) (hsh : w.shape? b = some (109, 2)) (hfz : w.frozen? ⟨b, 0, none⟩ = false) :
    Calls Tryz.prog 77 #[.pointer (some ⟨b, 0, none⟩)] w fun e w' => e = .returned (.tuple #[]) ∧ w' = w.setCell ⟨b, 0, none⟩ (.pointer (some ⟨b, 0, none⟩)) := by
  have hX : (Tryz.prog.info? 109).map (·.size) = some 2 := by kernel_rfl
  have hY : liesAt Tryz.prog Tryz.prog.depth 109 (2 / Tryz.prog.cellsOf 109) 0 109 1 = true := by kernel_rfl
  obtain ⟨j, hj, hjs⟩ := Option.map_eq_some_iff.1 hX
  go_enter Tryz.func77, Tryz.ntmps77
  go_wp2
  rw [Lib.run_to_unsafe w ⟨b, 0, none⟩ Tryz.underlying106 Tryz.underlying156 hj (by rw [hjs]; decide) hsh (Nat.zero_lt_succ 1)]
  simp only [Result.andThen]
  rw [Oper.upon_value]
  go_wp2
  rw [run_callFunc_extern Tryz.func96 (by kernel_rfl) (by kernel_rfl) (by kernel_rfl) (e := Extern.AbiNoEscape.same) (by kernel_rfl)]
  rw [Lib.run_noEscape]
  simp only [Result.andThen]
  rw [Oper.upon_value]
  go_wp2
  rw [Lib.run_from_unsafe w ⟨b, 0, none⟩ Tryz.underlying156 Tryz.underlying106 hj hsh hY]
  simp only [Result.andThen]
  rw [Oper.upon_value]
  go_wp2
  go_end0
  exact ⟨rfl, rfl⟩
theorem bcheck_any (B b : Nat) (bs : List Value) (w : World) (h : Lib.IsBuilder 109 5 B b bs w) :
    Calls Tryz.prog 77 #[.pointer (some ⟨b, 0, none⟩)] w fun e w' => e = .returned (.tuple #[]) ∧ Lib.BuilderAt 109 5 B b (.pointer (some ⟨b, 0, none⟩)) bs w' ∧ Below B w w' ∧ Lib.OthersKept 5 (some b) w w' := by
  rcases h with h | h
  · refine (bcheck_fresh b w h.cell0 h.shape h.frozen0).mono ?_
    rintro e w' ⟨rfl, rfl⟩
    exact ⟨rfl, h.used _, (Below.refl B w).setCell (p := ⟨b, 0, none⟩) h.1 _, (Lib.OthersKept.refl _ _ w).setCell ⟨b, 0, none⟩ rfl _⟩
  · refine (bcheck_used b w h.cell0).mono ?_
    rintro e w' ⟨rfl, rfl⟩
    exact ⟨rfl, h, Below.refl B _, Lib.OthersKept.refl _ _ _⟩

set_option maxHeartbeats 1000000 in
set_option maxRecDepth 100000 in
theorem bwrite_any (B b : Nat) (bs : List Value) (s : ByteArray) (w : World) (h : Lib.IsBuilder 109 5 B b bs w) (hlen : bs.length + s.size ≤ 140737488355328) (hBw : B ≤ w.heap.size) :
    Calls Tryz.prog 48 #[.pointer (some ⟨b, 0, none⟩), .string s] w fun e w' => e = .returned (.tuple #[.int .i64 s.size, .nilIface]) ∧ Lib.BuilderAt 109 5 B b (.pointer (some ⟨b, 0, none⟩)) (bs ++ Lib.strCells s) w' ∧ Below B w w' ∧ Lib.OthersKept 5 (some b) w w' := by
  have hI : (Tryz.prog.info? 5).map (fun i => (i.zero, i.size, i.bytes)) = some (some (.int .u8 0), 1, 1) := by kernel_rfl
  obtain ⟨i0, hi, hz0, hz1, hz2⟩ := info_parts hI
  go_enter Tryz.func48, Tryz.ntmps48
  go_wp2_with (go_at_call 77; refine (bcheck_any B b bs _ h).mono ?_)
  rintro e w1 ⟨rfl, h1, hb1, hk1⟩
  obtain ⟨hB, v, hbk, hown, hne⟩ := h1
  have c0 : w1.cell? ⟨b, 0, none⟩ = some (.pointer (some ⟨b, 0, none⟩)) := by rw [Lib.cell_of_heap hbk]; rfl
  have c1 : w1.cell? ⟨b, 1, none⟩ = some v := by rw [Lib.cell_of_heap hbk]; rfl
  go_wp2_with (at_builtin; refine Lib.wpList_append_own_string _ rfl _ _ 107 9 rfl B 5 i0 Tryz.underlying107 Tryz.underlying9 hi hz0 hz1 hz2 _ _ _ rfl hown s rfl ?c3 ?c4 ?c5 ?_)
  case c3 => unfold maxLen; omega
  case c4 => omega
  case c5 => have := hb1.size; omega
  intro v' w2 hown' hgrow _
  have hlt : b < w1.heap.size := by
    rcases Nat.lt_or_ge b w1.heap.size with h' | h'
    · exact h'
    · simp [Array.getElem?_eq_none h'] at hbk
  have hb2 : w2.heap[b]? = some (.cells #[.pointer (some ⟨b, 0, none⟩), v] 109 (0, 0)) := by
    rw [hgrow.block b hlt (fun e => hne e.symm)]
    exact hbk
  have d0 : w2.cell? ⟨b, 0, none⟩ = some (.pointer (some ⟨b, 0, none⟩)) := by rw [Lib.cell_of_heap hb2]; rfl
  have d1 : w2.cell? ⟨b, 1, none⟩ = some v := by rw [Lib.cell_of_heap hb2]; rfl
  have f1 : w2.frozen? ⟨b, 1, none⟩ = false := Lib.frozen_of_heap hb2 1
  obtain ⟨ao, n', cap, rfl⟩ : ∃ ao n' cap, v' = .slice ao n' cap := by
    rcases hown'.2 with ⟨hv, _⟩ | ⟨g, cap, cur, hv, _⟩
    · exact ⟨_, _, _, hv⟩
    · exact ⟨_, _, _, hv⟩
  go_wp2
  go_ret2
  refine ⟨rfl, ?_, ?_, (hk1.grown hgrow (Lib.ownsRowF_kind (World.ownsRowF_of hown))).setCell ⟨b, 1, none⟩ rfl _⟩
  · exact Lib.BuilderAt.put (T := 109) (e := 5) hB hb2 (bs' := bs ++ Lib.strCells s) (by simpa [Lib.strCells_length] using hown') (by decide)
  · exact (hb1.grown hgrow (by have := hb1.size; omega) (fun k hk => (hown.lt k hk).1)).setCell (p := ⟨b, 1, none⟩) hB _

/-! ### In the words of this proof -/
/-- A builder that holds a text (from block b on nothing is older). -/
def Bld (b : Nat) (s : ByteArray) (w : World) : Prop := Lib.IsBuilder 109 5 b b (Lib.strCells s) w
theorem Bld.k0 {b : Nat} {s : ByteArray} {w w' : World} (h : Bld b s w) (hk : K0 w w') : Bld b s w' := by
  rcases h with ⟨h1, v, h2, h3, h4⟩ | ⟨h1, v, h2, h3, h4⟩
  · exact .inl ⟨h1, v, hk.blk h2 (fun h => h), owns_kp h3 hk (fun _ _ h => h), h4⟩
  · exact .inr ⟨h1, v, hk.blk h2 (fun h => h), owns_kp h3 hk (fun _ _ h => h), h4⟩
theorem Bld.lt {b : Nat} {s : ByteArray} {w : World} (h : Bld b s w) : b < w.heap.size := by
  rcases h with h | h <;> exact h.lt
theorem Bld.new {b : Nat} {w : World} (h : w.heap[b]? = some (.cells #[.pointer none, .slice none 0 0] 109 (0, 0))) : Bld b ⟨#[]⟩ w :=
  .inl ⟨Nat.le_refl _, .slice none 0 0, h, World.ownsRow_nil _ _ _ _, by simp [Value.ownBlock]⟩
theorem strCells_app (a b : ByteArray) : Lib.strCells (a ++ b) = Lib.strCells a ++ Lib.strCells b := by
  unfold Lib.strCells
  rw [ByteArray.toList_data_append, List.map_append]
theorem Bld.write {b : Nat} {t : ByteArray} {w : World} (h : Bld b t w) (s : ByteArray) (hl : t.size + s.size ≤ 140737488355328) :
    Calls Tryz.prog 48 #[.pointer (some ⟨b, 0, none⟩), .string s] w fun e w' => e = .returned (.tuple #[.int .i64 s.size, .nilIface]) ∧ Bld b (t ++ s) w' ∧ Kp (fun k => b ≤ k) w w' ∧
      ∀ k c ty f, w.heap[k]? = some (.cells c ty f) → k ≠ b → ty ≠ 5 → w'.heap[k]? = w.heap[k]? :=
  (bwrite_any b b _ s w h (by rw [Lib.strCells_length]; exact hl) (Nat.le_of_lt h.lt)).mono fun e w' ⟨he, h1, h2, h3⟩ => by
    rw [← strCells_app] at h1
    refine ⟨he, .inr h1, ⟨h2.os, h2.tape, h2.output, h2.size, fun k _ hb => h2.block k (by omega)⟩, fun k c ty f hk hb ht => ?_⟩
    rw [hk]
    exact h3 k _ hk (fun e => hb (Option.some.inj e)) (fun c' f' e => ht (by cases e; rfl))
theorem Bld.text {b : Nat} {s : ByteArray} {w : World} (h : Bld b s w) :
    Calls Tryz.prog 50 #[.pointer (some ⟨b, 0, none⟩)] w fun e w' => e = .returned (.string s) ∧ Kp (fun k => b ≤ k) w w' :=
  (Tryz.Builder_String_any b b s.data.toList w h (Nat.le_of_lt h.lt)).mono fun e w' ⟨he, h2⟩ => ⟨he, ⟨h2.os, h2.tape, h2.output, h2.size, fun k _ hb => h2.block k (by omega)⟩⟩

end Go.Proofs.YtgmmoghagpmpfaaGreatDoor

/- Rows and blocks of different types are apart. Generic: no program, no condition. -/
namespace Go.Proofs.YtgmmoghagpmpfaaGreatDoor
open Go.RowKit

theorem own_not {w : World} {base : Nat} {e t : TypeId} {size : Nat} {v : Value} {n : Nat} {xs : List Value} (h : w.ownsRow base e size v n xs) {k : Nat} {c : Array Value} {f : Nat × Nat} (hk : w.heap[k]? = some (.cells c t f)) (hne : (t == e) = false) : ¬ v.ownBlock = some k := fun he => by
  obtain ⟨c', h1⟩ := own_type h he
  rw [hk] at h1
  simp at h1
  rw [h1.2.1] at hne
  simp at hne
theorem blk_ne {w : World} {a b : Nat} {c c' : Array Value} {t t' : TypeId} {f f' : Nat × Nat} (h : w.heap[a]? = some (.cells c t f)) (h' : w.heap[b]? = some (.cells c' t' f')) (hne : (t == t') = false) : a ≠ b := fun e => by
  subst e
  rw [h] at h'
  simp at h'
  rw [h'.2.1] at hne
  simp at hne

end Go.Proofs.YtgmmoghagpmpfaaGreatDoor
