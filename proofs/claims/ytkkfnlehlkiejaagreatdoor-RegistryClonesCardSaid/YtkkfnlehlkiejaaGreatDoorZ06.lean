/- Chapter 21: the contracts of groupname.Check and of the reference's Check of a name. The library's variable MaxLen holds a number. -/
import Derived.Test.YtkkfnlehlkiejaaGreatDoorZ05
import Derived.Test.YtkkfnlehlkiejaaGreatDoorProg
import Derived.Test.YtkkfnlehlkiejaaGreatDoorZ02
import Derived.Test.YtkkfnlehlkiejaaGreatDoorZ03
import Derived.KernelRfl
import Derived.Shelf.SlGeneric
import Derived.Shelf.SlSortCmp.NoneTotal
import Derived.Ground.SlsfProg
namespace Go.Proofs.YtkkfnlehlkiejaaGreatDoor
open Go.RowKit

theorem nn_is {g : Bool} {p : Option Addr} {b o : Nat} {K : Nat → Nat → Prop} (hp : p = some ⟨b, o, none⟩) (h : K b o) : nn g p K := by subst hp; exact h
theorem nneg {a : Nat} (h : a ≤ 4611686018427387904) : ((9223372036854775807 : Int) - (a : Int)).NonNeg :=
  Int.nonneg_def.2 ⟨9223372036854775807 - a, by omega⟩
theorem str_get {w : World} {p : Option Addr} {zs : List ByteArray} (h : StrP w p zs) {k : Nat} (hk : k < zs.length) : ∃ z b o, zs[k]? = some z ∧ p = some ⟨b, o, none⟩ ∧ w.cell? ⟨b, o + k, none⟩ = some (.string z) := h.get hk
theorem bcon_any (s : ByteArray) (b c : Nat) (f : FuncId) (fa fb : Array Value) (g : Int → Bool) (w : World) (hS : ∀ k, k < s.size → w.cell? ⟨b, 0 + k, none⟩ = some (.int .u8 (at8 s k))) (hs : s.size ≤ 1073741824) (hok : okFn Tryz.prog f = true)
    (hF : ∀ x, ∀ w1, K0 w w1 → Calls Tryz.prog f (appA fa [.int .u8 x] fb) w1 fun e w2 => e = .returned (.bool (g x)) ∧ K0 w1 w2) :
    Calls Tryz.prog 100 #[.slice (some ⟨b, 0, none⟩) s.size c, .func (.func f) fa fb] w fun e w' => e = .returned (.bool ((List.range s.size).any fun i => g (at8 s i))) ∧ K0 w w' := by
  have hidx : Calls Tryz.prog 120 #[.slice (some ⟨b, 0, none⟩) s.size c, .func (.func f) fa fb] w fun e w' => (∃ x : Int, e = .returned (.int .i64 x) ∧ decide (x ≥ 0) = (List.range s.size).any fun i => g (at8 s i)) ∧ K0 w w' := by
    refine vc_bidx (some ⟨b, 0, none⟩) s.size c f fa fb w _ ?_
    refine ⟨fun vs w' => ∃ i : Nat, vs = [.int .i64 (i : Int)] ∧ i ≤ s.size ∧ (∀ j, j < i → g (at8 s j) = false) ∧ K0 w w',
      fun vs _ => (match vs with | .int _ x :: _ => s.size - x.toNat | _ => 0), ⟨0, rfl, by omega, (fun j h => by omega), .refl _ _⟩, ?_⟩
    rintro x w1 ⟨i, hv, hi, hall, k1⟩
    simp only [List.cons.injEq, Value.int.injEq, true_and, and_true] at hv
    subst hv
    refine bsp_intro (fun hlt => ?_) (fun hge => ?_)
    · have hlt : i < s.size := by simp at hlt; omega
      rw [Int.toNat_natCast]
      refine nn_is rfl ⟨⟨by omega, by omega⟩, at8 s i, k1.cell' (hS i hlt) (fun h => h), f, fa, fb, rfl, hok, ⟨(hF (at8 s i) w1 k1).mono fun e w2 ⟨he, k2⟩ => ⟨_, he, .of_k0 k2, bsp_intro (fun hg => ?_) (fun hg => ?_)⟩⟩⟩
      · refine ⟨⟨i, rfl, ?_⟩, k1.trans k2⟩
        have : ((List.range s.size).any fun i => g (at8 s i)) = true := List.any_eq_true.2 ⟨i, List.mem_range.2 hlt, hg⟩
        rw [this]; simp
      · refine ⟨⟨i + 1, by rw [inc64 (by omega)], hlt, fun j hj => ?_, k1.trans k2⟩, by rw [inc64 (by omega)]; simp only [Int.toNat_natCast]; omega⟩
        by_cases e : j = i
        · rw [e]; exact hg
        · exact hall j (by omega)
    · have hi : i = s.size := by simp at hge; omega
      subst hi
      refine ⟨⟨-1, rfl, ?_⟩, k1⟩
      have : ((List.range s.size).any fun i => g (at8 s i)) = false := List.any_eq_false.2 fun j hj => by simpa using hall j (List.mem_range.1 hj)
      rw [this]; rfl
  refine vc_bcon (some ⟨b, 0, none⟩) s.size c f fa fb w _ ⟨hidx.mono fun e w1 ⟨⟨x, he, hx⟩, k1⟩ => ⟨_, he, .of_k0 k1, by rw [hx], k1⟩⟩
theorem scon_any (l : List ByteArray) (p : Option Addr) (c : Nat) (f : FuncId) (fa fb : Array Value) (g : ByteArray → Bool) (w : World) (hR : StrP w p l) (hs : l.length ≤ 1073741824) (hok : okFn Tryz.prog f = true)
    (hF : ∀ x, ∀ w1, K0 w w1 → Calls Tryz.prog f (appA fa [.string x] fb) w1 fun e w2 => e = .returned (.bool (g x)) ∧ K0 w1 w2) :
    Calls Tryz.prog 79 #[.slice p l.length c, .func (.func f) fa fb] w fun e w' => e = .returned (.bool (l.any g)) ∧ K0 w w' := by
  have hidx : Calls Tryz.prog 98 #[.slice p l.length c, .func (.func f) fa fb] w fun e w' => (∃ x : Int, e = .returned (.int .i64 x) ∧ decide (x ≥ 0) = l.any g) ∧ K0 w w' := by
    refine vc_sidx p l.length c f fa fb w _ ?_
    refine ⟨fun vs w' => ∃ i : Nat, vs = [.int .i64 (i : Int)] ∧ i ≤ l.length ∧ (∀ j z, j < i → l[j]? = some z → g z = false) ∧ K0 w w',
      fun vs _ => (match vs with | .int _ x :: _ => l.length - x.toNat | _ => 0), ⟨0, rfl, by omega, (fun j z h => by omega), .refl _ _⟩, ?_⟩
    rintro x w1 ⟨i, hv, hi, hall, k1⟩
    simp only [List.cons.injEq, Value.int.injEq, true_and, and_true] at hv
    subst hv
    refine bsp_intro (fun hlt => ?_) (fun hge => ?_)
    · have hlt : i < l.length := by simp at hlt; omega
      obtain ⟨z, b, o, hz, hp, hc⟩ := str_get (hR.k0 k1) hlt
      rw [Int.toNat_natCast]
      refine nn_is hp ⟨⟨by omega, by omega⟩, z, hc, f, fa, fb, rfl, hok, ⟨(hF z w1 k1).mono fun e w2 ⟨he, k2⟩ => ⟨_, he, .of_k0 k2, bsp_intro (fun hg => ?_) (fun hg => ?_)⟩⟩⟩
      · refine ⟨⟨i, rfl, ?_⟩, k1.trans k2⟩
        have : l.any g = true := List.any_eq_true.2 ⟨z, List.mem_of_getElem? hz, hg⟩
        rw [this]; simp
      · refine ⟨⟨i + 1, by rw [inc64 (by omega)], hlt, fun j y hj hy => ?_, k1.trans k2⟩, by rw [inc64 (by omega)]; simp only [Int.toNat_natCast]; omega⟩
        by_cases e : j = i
        · rw [e, hz] at hy; cases hy; exact hg
        · exact hall j y (by omega) hy
    · have hi : i = l.length := by simp at hge; omega
      subst hi
      refine ⟨⟨-1, rfl, ?_⟩, k1⟩
      have : l.any g = false := List.any_eq_false.2 fun z hz => by
        obtain ⟨j, hj, e⟩ := List.getElem_of_mem hz
        simpa using hall j z hj (by rw [List.getElem?_eq_getElem hj, e])
      rw [this]; rfl
  refine vc_scon p l.length c f fa fb w _ ⟨hidx.mono fun e w1 ⟨⟨x, he, hx⟩, k1⟩ => ⟨_, he, .of_k0 k1, by rw [hx], k1⟩⟩

/-! ### The program's -/
theorem gisl_any (c : Int) (w : World) : Calls Tryz.prog 99 #[.int .u8 c] w fun e w' => e = .returned (.bool (lowC c)) ∧ K0 w w' :=
  vc_gisl c w _ ⟨by unfold lowC; simp, .refl _ _⟩
theorem gcompC_any (c : Int) (w : World) : Calls Tryz.prog 101 #[.int .u8 c] w fun e w' => e = .returned (.bool (!compC c)) ∧ K0 w w' := by
  refine vc_gcompC c w _ ⟨(gisl_any c w).mono fun e w1 ⟨he, k1⟩ => ⟨_, he, .of_k0 k1, ?_, k1⟩⟩
  congr 2
  unfold compC
  rw [Bool.eq_iff_iff]
  cases lowC c <;> simp <;> omega
theorem compB_eq {s : ByteArray} (h0 : 0 < s.size) (h1 : s.size ≤ 20) (h2 : lowC (at8 s 0) = true) : compB s = !((List.range s.size).any fun i => !compC (at8 s i)) := by
  unfold compB
  rw [decide_eq_true h0, decide_eq_true h1, h2, List.not_any_eq_all_not]
  simp
theorem gcomp_any (s : ByteArray) (w : World) : Calls Tryz.prog 81 #[.string s] w fun e w' => e = .returned (.bool (compB s)) ∧ K0 w w' := by
  refine vc_gcomp s w _ ?_
  unfold VC_gcomp
  rw [toList_nil]
  refine ⟨gimp_intro fun h => ?_, bsp_intro (fun h => ?_) (fun h => ?_)⟩
  · simp only [Bool.not_eq_true', Bool.or_eq_false_iff, decide_eq_false_iff_not] at h
    omega
  · simp only [Bool.not_eq_true', Bool.or_eq_false_iff, decide_eq_false_iff_not] at h
    have h0 : 0 < s.size := by omega
    have h1 : s.size ≤ 20 := by omega
    refine ⟨(gisl_any (at8 s 0) w).mono fun e w1 ⟨he, k1⟩ => ⟨_, he, .of_k0 k1, bsp_intro (fun h2 => ?_) (fun h2 => ?_)⟩⟩
    · have h2 : lowC (at8 s 0) = false := by simpa using h2
      have : compB s = false := by unfold compB; rw [h2]; simp
      rw [this]; exact ⟨rfl, k1⟩
    · have h2 : lowC (at8 s 0) = true := by simpa using h2
      intro c n w2 hc hn
      have k2 : K0 w1 w2 := (hn.kp (fun _ => False)).of_drew
      refine ⟨.of_k0 k2, ⟨(bcon_any s n c 101 #[] #[] (fun c => !compC c) w2 (fun k hk => byte_cell hn.block hk) (by omega) (by kernel_rfl) (fun x w3 _ => gcompC_any x w3)).mono fun e w3 ⟨he, k3⟩ => ⟨_, he, .of_k0 k3, ?_, (k1.trans k2).trans k3⟩⟩⟩
      rw [compB_eq h0 h1 h2]
  · have h : s.size = 0 ∨ 20 < s.size := by
      simp only [Bool.not_eq_false', Bool.or_eq_true, decide_eq_true_eq] at h
      omega
    have : compB s = false := by
      unfold compB
      rcases h with h | h
      · rw [decide_eq_false (by omega)]; rfl
      · rw [decide_eq_false (show ¬ s.size ≤ 20 by omega)]; simp
    rw [this]
    exact ⟨.refl _ _, rfl, .refl _ _⟩
theorem gcheckC_any (s : ByteArray) (w : World) : Calls Tryz.prog 80 #[.string s] w fun e w' => e = .returned (.bool (!compB s)) ∧ K0 w w' :=
  vc_gcheckC s w _ ⟨(gcomp_any s w).mono fun _ _ ⟨he, k1⟩ => ⟨_, he, .of_k0 k1, rfl, k1⟩⟩
theorem gparts_any (s : ByteArray) (w : World) (hs : s.size ≤ 1073741824) (hG : GW w) : Calls Tryz.prog 78 #[.string s] w fun e w' => (∃ (p : Option Addr) (c : Nat), e = .returned (.slice p (partsD s).length c) ∧ StrP w' p (partsD s)) ∧ K0 w w' := by
  refine vc_gparts s w _ ?_
  obtain ⟨mm, hG1⟩ := hG
  refine ⟨(Tryz.strings_Split s ⟨#[46]⟩ mm w (by omega) hG1 (by decide)).mono fun e w2 ⟨he, hw2⟩ => ?_⟩
  have hlen : (partsD s).length = Lib.countB s ⟨#[46]⟩ + 1 := Lib.splitB_all ⟨#[46]⟩ (by decide) 0 _ s rfl
  have hn2 : NewB w (.cells ((partsD s).map .string).toArray 9) w.heap.size w2 := ⟨rfl, hw2⟩
  rw [← hlen] at he
  have k2 : K0 w w2 := hn2.kp _
  refine ⟨_, _, _, he, .of_k0 k2, ⟨_, _, rfl, fun k z hk => ⟨_, 0, rfl, ?_⟩⟩, k2⟩
  rw [Nat.zero_add]
  exact cell_at hn2.block (by simp [hk])
theorem partsD_le : ∀ (n : Nat) (s : ByteArray), s.size ≤ n → (partsD s).length ≤ s.size + 1
  | n, s, h => by
    have hf := findC_first 46 s
    by_cases hi : findC 46 s < s.size
    · cases n with
      | zero => omega
      | succ n =>
        rw [partsD_hit hf hi, List.length_cons]
        have hz : (s.extract (findC 46 s + 1) s.size).size = s.size - (findC 46 s + 1) := by rw [ByteArray.size_extract]; omega
        have := partsD_le n (s.extract (findC 46 s + 1) s.size) (by omega)
        omega
    · rw [partsD_miss hf hi]; simp
theorem gcheck_any (s : ByteArray) (w : World) (hG : GW w) : Calls Tryz.prog 54 #[.string s] w fun e w' => e = .returned (.int .i64 (gnE s)) ∧ K0 w w' := by
  refine vc_gcheck s w _ (bsp_intro (fun h => ?_) (fun h => ?_))
  · have : gnE s = 5 := by unfold gnE; rw [if_pos (by simp at h; omega)]
    rw [this]; exact ⟨rfl, .refl _ _⟩
  have h80 : ¬ 80 < s.size := by simp at h; omega
  have hle := partsD_le s.size s (Nat.le_refl _)
  unfold gnE
  rw [if_neg h80]
  refine ⟨(gparts_any s w (by omega) hG).mono fun e w1 ⟨⟨p, c, he, hR⟩, k1⟩ => ⟨_, _, _, he, .of_k0 k1, ?_⟩⟩
  refine ⟨(scon_any (partsD s) p c 80 #[] #[] (fun x => !compB x) w1 hR (by omega) (by kernel_rfl) (fun x w2 _ => gcheckC_any x w2)).mono fun e w2 ⟨he, k2⟩ => ⟨_, he, .of_k0 k2, bsp_intro (fun h => ?_) (fun h => ?_)⟩⟩
  · rw [if_pos h]; exact ⟨rfl, k1.trans k2⟩
  rw [if_neg (by rw [h]; decide)]
  refine bsp_intro (fun h => ?_) (fun h => ?_)
  · rw [if_pos (by simp at h; omega)]; exact ⟨rfl, k1.trans k2⟩
  · rw [if_neg (by simp at h; omega)]; exact ⟨rfl, k1.trans k2⟩

/-! ### The reference's -/
theorem xcomp_any (s : ByteArray) (w : World) : Calls Tryz.prog 83 #[.string s] w fun e w' => e = .returned (.bool (compB s)) ∧ K0 w w' := by
  refine vc_xcomp s w _ ⟨gimp_intro fun h => ?_, gimp_intro fun h => ?_, bsp_intro (fun h => ?_) (fun h => ?_)⟩
  · simp only [Bool.not_eq_true', Bool.or_eq_false_iff, decide_eq_false_iff_not] at h; omega
  · simp only [Bool.not_eq_true', Bool.or_eq_false_iff, decide_eq_false_iff_not] at h; omega
  · have : compB s = false := by
      simp only [Bool.or_eq_true, decide_eq_true_eq] at h
      unfold compB
      by_cases h1 : 0 < s.size ∧ s.size ≤ 20
      · have : lowC (at8 s 0) = false := by
          unfold lowC
          rcases h with ((h | h) | h) | h
          · omega
          · omega
          · have h : at8 s 0 < 97 := h
            rw [decide_eq_false (by omega)]; rfl
          · have h : at8 s 0 > 122 := h
            rw [decide_eq_false (show ¬ at8 s 0 ≤ 122 by omega)]; simp
        rw [this]; simp
      · by_cases h2 : 0 < s.size
        · rw [decide_eq_false (show ¬ s.size ≤ 20 by omega)]; simp
        · rw [decide_eq_false h2]; rfl
    rw [this]; exact ⟨rfl, .refl _ _⟩
  simp only [Bool.or_eq_false_iff, decide_eq_false_iff_not] at h
  have h2 : lowC (at8 s 0) = true := by
    have a1 : ¬ at8 s 0 < 97 := h.1.2
    have a2 : ¬ at8 s 0 > 122 := h.2
    unfold lowC
    rw [decide_eq_true (by omega), decide_eq_true (by omega)]; rfl
  have hc0 : compC (at8 s 0) = true := by unfold compC; rw [h2]; rfl
  refine ⟨fun vs w' => ∃ i : Nat, vs = [.int .i64 (i : Int)] ∧ 1 ≤ i ∧ i ≤ s.size ∧ (∀ j, j < i → compC (at8 s j) = true) ∧ K0 w w',
    fun vs _ => (match vs with | .int _ x :: _ => s.size - x.toNat | _ => 0), ⟨1, rfl, by omega, by omega, (fun j h => by have e : j = 0 := (by omega); rw [e]; exact hc0), .refl _ _⟩, ?_⟩
  rintro x w1 ⟨i, hv, h1i, hi, hall, k1⟩
  simp only [List.cons.injEq, Value.int.injEq, true_and, and_true] at hv
  subst hv
  refine bsp_intro (fun hlt => ?_) (fun hge => ?_)
  · have hlt : i < s.size := by simp at hlt; omega
    rw [Int.toNat_natCast]
    have e : (!(decide (at8 s i ≥ 97) && decide (at8 s i ≤ 122) || decide (at8 s i ≥ 48) && decide (at8 s i ≤ 57) || at8 s i == 45 || at8 s i == 43 || at8 s i == 95)) = !compC (at8 s i) := by
      unfold compC lowC; rfl
    rw [e]
    refine ⟨⟨by omega, by omega⟩, bsp_intro (fun hb => ?_) (fun hb => ?_)⟩
    · have hb : compC (at8 s i) = false := by simpa using hb
      have : compB s = false := by
        unfold compB
        have : ((List.range s.size).all fun i => compC (at8 s i)) = false := by
          rw [List.all_eq_false]; exact ⟨i, List.mem_range.2 hlt, by simp [hb]⟩
        rw [this]; simp
      rw [this]; exact ⟨rfl, k1⟩
    · have hb : compC (at8 s i) = true := by simpa using hb
      refine ⟨⟨i + 1, by rw [inc64 (by omega)], by omega, hlt, fun j hj => ?_, k1⟩, by rw [inc64 (by omega)]; simp only [Int.toNat_natCast]; omega⟩
      by_cases e : j = i
      · rw [e]; exact hb
      · exact hall j (by omega)
  · have hi : i = s.size := by simp at hge; omega
    subst hi
    have : compB s = true := by
      unfold compB
      rw [decide_eq_true (by omega), decide_eq_true (by omega), h2]
      simp only [Bool.true_and, List.all_eq_true]
      exact fun j hj => hall j (List.mem_range.1 hj)
    rw [this]; exact ⟨rfl, k1⟩
theorem ext_nil (s : ByteArray) (i : Nat) : s.extract i i = ⟨#[]⟩ := by
  apply ByteArray.ext_getElem
  · rw [ByteArray.size_extract]
    show min i s.size - i = 0
    omega
  · intro k hk _
    rw [ByteArray.size_extract] at hk
    omega
theorem xparts_any (s : ByteArray) (w : World) (hs : s.size ≤ 1000000) : Calls Tryz.prog 82 #[.string s, .int .u8 46] w fun e w' => (∃ (p : Option Addr) (c : Nat), e = .returned (.slice p (partsD s).length c) ∧ StrP w' p (partsD s)) ∧ K0 w w' := by
  refine vc_xparts s 46 w _ ?_
  refine ⟨fun vs w' => ∃ (i a : Nat) (p : Option Addr) (c : Nat) (out : List ByteArray), vs = [.int .i64 (i : Int), .string (s.extract a i), .slice p out.length c] ∧ a ≤ i ∧ i ≤ s.size ∧ out.length ≤ i ∧ (∀ j, a ≤ j → j < i → at8 s j ≠ 46) ∧ partsD s = out ++ partsD (s.extract a s.size) ∧ w'.ownsRow w.heap.size 9 1 (.slice p out.length c) out.length (out.map .string) ∧ K0 w w',
    fun vs _ => (match vs with | .int _ x :: _ => s.size - x.toNat | _ => 0), ⟨0, 0, none, 0, [], by rw [ext_nil]; rfl, by omega, by omega, by simp, (fun j h1 h2 => by omega), by simp, ⟨rfl, .inl ⟨rfl, rfl⟩⟩, .refl _ _⟩, ?_⟩
  rintro x y p n c w1 ⟨i, a, p', c', out, hv, hai, hi, hol, hno, hP, ho, k1⟩
  simp only [List.cons.injEq, Value.int.injEq, Value.string.injEq, Value.slice.injEq, true_and, and_true] at hv
  obtain ⟨rfl, rfl, rfl, rfl, rfl⟩ := hv
  have hesz : (s.extract a s.size).size = s.size - a := by rw [ByteArray.size_extract]; omega
  have happ : ∀ (W : World), K0 w1 W → ∀ (n1 : Nat), W.heap[n1]? = some (.cells #[.string (s.extract a i)] 9 (0, 0)) → ∃ (base : Nat) (xs : List Value), W.ownsRow base 9 1 (.slice p out.length c) out.length xs ∧ out.length + 1 ≤ 9223372036854775807 ∧ (out.length + 1) * 16 ≤ 140737488355328 ∧ base ≤ W.heap.size ∧ base = w.heap.size ∧ xs = out.map .string := fun W k n1 _ =>
    ⟨w.heap.size, _, owns_kp ho k (fun _ _ h => h), by omega, by omega, Nat.le_trans k1.size k.size, rfl, rfl⟩
  refine bsp_intro (fun hlt => ?_) (fun hge => ?_)
  · have hlt : i < s.size := by simp at hlt; omega
    rw [Int.toNat_natCast]
    refine ⟨⟨by omega, by omega⟩, bsp_intro (fun hb => fun n1 W hW => ?_) (fun hb => ?_)⟩
    · have hb : at8 s i = 46 := by simpa using hb
      have kW : K0 w1 W := hW.kk rfl
      obtain ⟨base, xs, h1, h2, h3, h4, rfl, rfl⟩ := happ W kW n1 (hW.cells 0 rfl)
      refine ⟨_, _, h1, h2, h3, h4, fun p' c' w2 ho2 hg2 _ => ?_⟩
      have k2 : K0 w w2 := (k1.trans kW).fresh (kp_grown hg2) (fun j hj e => by have := own_ge ho e; omega)
      have hfst : FirstC 46 (s.extract a s.size) 0 (i - a) := ⟨Nat.zero_le _, by omega, fun j _ hj => by
        rw [T0.at8_extract s a s.size j (by omega) (Nat.le_refl _)]
        exact hno (a + j) (by omega) (by omega), fun h => by
        rw [T0.at8_extract s a s.size _ (by omega) (Nat.le_refl _), show a + (i - a) = i by omega]
        exact hb⟩
      have hh := partsD_hit hfst (by omega)
      have e1 : (s.extract a s.size).extract 0 (i - a) = s.extract a i := by rw [ByteArray.extract_extract]; congr 1; omega
      have e2 : (s.extract a s.size).extract (i - a + 1) (s.extract a s.size).size = s.extract (i + 1) s.size := by rw [hesz, ByteArray.extract_extract]; congr 1 <;> omega
      rw [e1, e2] at hh
      have el : (out ++ [s.extract a i]).length = out.length + 1 := by simp
      refine ⟨⟨(kp_grown hg2).size, fun _ hx => by cases hx⟩, ⟨i + 1, i + 1, p', c', out ++ [s.extract a i], by rw [inc64 (by omega), ext_nil, el], by omega, hlt, by rw [el]; omega, (fun j h1 h2 => by omega), by rw [hP, hh, List.append_assoc]; rfl, by rw [el, List.map_append]; exact ho2, k2⟩, by rw [inc64 (by omega)]; simp only [Int.toNat_natCast]; omega⟩
    · have hb : at8 s i ≠ 46 := by simpa using hb
      rw [inc64 (by omega), Int.toNat_natCast]
      have e1 : s.extract a i ++ s.extract i (i + 1) = s.extract a (i + 1) := by
        rw [ByteArray.extract_append_extract]; congr 1 <;> omega
      have z1 : (s.extract a i).size ≤ s.size := by rw [ByteArray.size_extract]; omega
      have z2 : (s.extract i (i + 1)).size ≤ s.size := by rw [ByteArray.size_extract]; omega
      rw [e1]
      refine ⟨⟨by omega, by omega, by omega⟩, nneg (by omega), ⟨i + 1, a, p, c, out, rfl, by omega, hlt, by omega, fun j h1 h2 => ?_, hP, ho, k1⟩, by simp only [Int.toNat_natCast]; omega⟩
      by_cases e : j = i
      · rw [e]; exact hb
      · exact hno j h1 (by omega)
  · have hi2 : i = s.size := by simp at hge; omega
    subst hi2
    intro n1 W hW
    have kW : K0 w1 W := hW.kk rfl
    obtain ⟨base, xs, h1, h2, h3, h4, rfl, rfl⟩ := happ W kW n1 (hW.cells 0 rfl)
    refine ⟨_, _, h1, h2, h3, h4, fun p' c' w2 ho2 hg2 _ => ?_⟩
    have k2 : K0 w w2 := (k1.trans kW).fresh (kp_grown hg2) (fun j hj e => by have := own_ge ho e; omega)
    have hh := partsD_miss (s := s.extract a s.size) (i := (s.extract a s.size).size) ⟨Nat.zero_le _, Nat.le_refl _, fun j _ hj => by
      rw [T0.at8_extract s a s.size j (by omega) (Nat.le_refl _)]
      exact hno (a + j) (by omega) (by omega), fun h => by omega⟩ (by omega)
    rw [hh] at hP
    have el : (out ++ [s.extract a s.size]).length = out.length + 1 := by simp
    rw [hP, el]
    refine ⟨⟨(kp_grown hg2).size, fun _ hx => by cases hx⟩, ⟨p', c', rfl, ?_⟩, k2⟩
    have : w2.ownsRow w.heap.size 9 1 (.slice p' (out.length + 1) c') (out.length + 1) ((out ++ [s.extract a s.size]).map .string) := by rw [List.map_append]; exact ho2
    intro k z hk
    obtain ⟨g, hp, hc⟩ := own_cellL this (i := k) (v := .string z) (by rw [List.getElem?_map, hk]; rfl)
    exact ⟨g, 0, hp, by rw [Nat.zero_add]; exact hc⟩
theorem xgcheck_any (s : ByteArray) (w : World) : Calls Tryz.prog 55 #[.string s] w fun e w' => e = .returned (.int .i64 (gnE s)) ∧ K0 w w' := by
  refine vc_xgcheck s w _ (bsp_intro (fun h => ?_) (fun h => ?_))
  · have : gnE s = 5 := by unfold gnE; rw [if_pos (by simp at h; omega)]
    rw [this]; exact ⟨rfl, .refl _ _⟩
  have h80 : ¬ 80 < s.size := by simp at h; omega
  have hle := partsD_le s.size s (Nat.le_refl _)
  unfold gnE
  rw [if_neg h80]
  refine ⟨(xparts_any s w (by omega)).mono fun e w1 ⟨⟨p, c, he, hR⟩, k1⟩ => ⟨_, _, _, he, .of_k0 k1, ?_⟩⟩
  generalize partsD s = l at *
  refine ⟨fun vs w' => ∃ i : Nat, vs = [.int .i64 (i : Int)] ∧ i ≤ l.length ∧ (∀ j z, j < i → l[j]? = some z → compB z = true) ∧ K0 w1 w',
    fun vs _ => (match vs with | .int _ x :: _ => l.length - x.toNat | _ => 0), ⟨0, rfl, by omega, (fun j z h => by omega), .refl _ _⟩, ?_⟩
  rintro x w2 ⟨i, hv, hi, hall, k2⟩
  simp only [List.cons.injEq, Value.int.injEq, true_and, and_true] at hv
  subst hv
  refine bsp_intro (fun hlt => ?_) (fun hge => ?_)
  · have hlt : i < l.length := by simp at hlt; omega
    obtain ⟨z, b, o, hz, hp, hc⟩ := str_get (hR.k0 k2) hlt
    rw [Int.toNat_natCast]
    refine nn_is hp ⟨⟨by omega, by omega⟩, z, hc, ⟨(xcomp_any z w2).mono fun e w3 ⟨he, k3⟩ => ⟨_, he, .of_k0 k3, bsp_intro (fun hb => ?_) (fun hb => ?_)⟩⟩⟩
    · have : l.any (fun x => !compB x) = true := List.any_eq_true.2 ⟨z, List.mem_of_getElem? hz, hb⟩
      rw [if_pos this]
      exact ⟨rfl, (k1.trans k2).trans k3⟩
    · have hb : compB z = true := by simpa using hb
      refine ⟨⟨i + 1, by rw [inc64 (by omega)], hlt, fun j y hj hy => ?_, k2.trans k3⟩, by rw [inc64 (by omega)]; simp only [Int.toNat_natCast]; omega⟩
      by_cases e : j = i
      · rw [e, hz] at hy; cases hy; exact hb
      · exact hall j y (by omega) hy
  · have hi : i = l.length := by simp at hge; omega
    subst hi
    have : ¬ l.any (fun x => !compB x) = true := fun h => by
      obtain ⟨z, hz, e⟩ := List.any_eq_true.1 h
      obtain ⟨j, hj, e2⟩ := List.getElem_of_mem hz
      rw [hall j z hj (by rw [List.getElem?_eq_getElem hj, e2])] at e
      cases e
    rw [if_neg this]
    refine bsp_intro (fun h => ?_) (fun h => ?_)
    · rw [if_pos (by simp at h; omega)]; exact ⟨rfl, k1.trans k2⟩
    · rw [if_neg (by simp at h; omega)]; exact ⟨rfl, k1.trans k2⟩

end Go.Proofs.YtkkfnlehlkiejaaGreatDoor

/- The formulas of functions by the symbolic evaluator, and that each gives the call's contract. Written by a program (gen.py). No condition. -/
namespace Go.Proofs.YtkkfnlehlkiejaaGreatDoor
set_option maxRecDepth 100000
set_option linter.unusedVariables false

def VC_acont (p : Option Addr) (n : Nat) (c : Nat) (a : Nat → Int) (w : World) (R : Ending → World → Prop) : Prop :=
 ∀ (n_1 : Nat) (W : World),
 Loc w.heap.size
 [Blk.mk n_1 53
 (arrI IntKind.u8 a 16 0)
 2]
 w W →
 CallsS Tryz.prog 76
 #[Value.slice p n c,
 Value.agg
 (arrI IntKind.u8 a 16 0).toArray]
 W fun (e : Ending) (w' : World) =>
 ∃ (x : Int),
 e = Ending.returned (Value.int IntKind.i64 x) ∧
 KeptL [n_1] W w' ∧ R (Ending.returned (Value.bool (decide (x ≥ 0)))) w'
theorem vc_acont (p : Option Addr) (n : Nat) (c : Nat) (a : Nat → Int) (w : World) (R : Ending → World → Prop) (h : VC_acont p n c a w R) : Calls Tryz.prog 52 ([Value.slice
    p n c,
  Value.agg (arrI IntKind.u8 a 16 0).toArray] : List Value).toArray w R := by
  have e : execR2 { P := Tryz.prog, loops := [], pur := pur1, tails := [], joins := [], boxes := [] } Tryz.f52.results.toList R (Tryz.f52.body.getD .skip) (initF [Value.slice
    p n c,
  Value.agg
    (arrI IntKind.u8 a 16
        0).toArray] (Tryz.f52.ntmps - ([Value.slice p n c,
  Value.agg (arrI IntKind.u8 a 16 0).toArray] : List Value).length)) w = VC_acont p n c a w R := by kernel_rfl
  have hb : Tryz.f52.body = some (Tryz.f52.body.getD .skip) := by kernel_rfl
  exact calls_of_exec2' (P := Tryz.prog) (fn := Tryz.f52) (c := Tryz.f52.body.getD .skip) (args := [Value.slice p n c,
  Value.agg (arrI IntKind.u8 a 16 0).toArray]) (w := w) (R := R) pur1_ok Tryz.func52 hb e h

def VC_aidx (p : Option Addr) (n : Nat) (c : Nat) (a : Nat → Int) (w : World) (R : Ending → World → Prop) : Prop :=
 ∀ (n_1 : Nat) (W : World),
 Loc w.heap.size
 [Blk.mk n_1 53
 (arrI IntKind.u8 a 16 0)
 2]
 w W →
 ∃ (I : List Value → World → Prop),
 ∃ (m : List Value → World → Nat),
 I [Value.int IntKind.i64 0] W ∧
 ∀ (x : Int) (w' : World),
 I [Value.int IntKind.i64 x] w' →
 Loc w.heap.size
 [Blk.mk n_1 53
 (arrI IntKind.u8 a 16 0)
 0]
 w' w' →
 bsp (decide (x < (↑n : Int)))
 (nn true p fun (b o : Nat) =>
 (0 ≤ x ∧ x < (↑n : Int)) ∧
 ∃ (f : Nat → Int),
 (∀ (W : World),
 Loc w.heap.size
 [Blk.mk n_1 53
 (arrI IntKind.u8 a 16 0)
 0]
 w' W →
 AtL W b (o + x.toNat * 16)
 (arrI IntKind.u8 f 16 0)) ∧
 ∃ (r : Bool),
 EqP Tryz.prog 53
 (Value.agg
 (arrI IntKind.u8 a 16 0).toArray)
 (Value.agg
 (arrI IntKind.u8 f 16 0).toArray)
 r ∧
 bsp r
 (∀ (W : World),
 Loc w.heap.size
 [Blk.mk n_1 53
 (arrI IntKind.u8 a 16 0)
 0]
 w' W →
 R (Ending.returned (Value.int IntKind.i64 x)) W)
 (∀ (W : World),
 Loc w.heap.size
 [Blk.mk n_1 53
 (arrI IntKind.u8 a 16 0)
 0]
 w' W →
 I [Value.int IntKind.i64 (IntKind.i64.wrap (x + 1))] W ∧
 m [Value.int IntKind.i64 (IntKind.i64.wrap (x + 1))] W < m [Value.int IntKind.i64 x] w'))
 (R (Ending.returned (Value.int IntKind.i64 (-1))) w')
theorem vc_aidx (p : Option Addr) (n : Nat) (c : Nat) (a : Nat → Int) (w : World) (R : Ending → World → Prop) (h : VC_aidx p n c a w R) : Calls Tryz.prog 76 ([Value.slice
    p n c,
  Value.agg (arrI IntKind.u8 a 16 0).toArray] : List Value).toArray w R := by
  have e : execR2 { P := Tryz.prog, loops := [(2, [(8, Ck.int IntKind.i64)])], pur := pur1, tails := [], joins := [], boxes := [] } Tryz.f76.results.toList R (Tryz.f76.body.getD .skip) (initF [Value.slice
    p n c,
  Value.agg
    (arrI IntKind.u8 a 16
        0).toArray] (Tryz.f76.ntmps - ([Value.slice p n c,
  Value.agg (arrI IntKind.u8 a 16 0).toArray] : List Value).length)) w = VC_aidx p n c a w R := by kernel_rfl
  have hb : Tryz.f76.body = some (Tryz.f76.body.getD .skip) := by kernel_rfl
  exact calls_of_exec2' (P := Tryz.prog) (fn := Tryz.f76) (c := Tryz.f76.body.getD .skip) (args := [Value.slice p n c,
  Value.agg (arrI IntKind.u8 a 16 0).toArray]) (w := w) (R := R) pur1_ok Tryz.func76 hb e h

def VC_aclone (p : Option Addr) (n : Nat) (c : Nat) (w : World) (R : Ending → World → Prop) : Prop :=
 bsp p.isNone (R (Ending.returned (Value.slice none 0 0)) w)
 (∀ (n_1 : Nat) (W : World),
 Loc w.heap.size [Blk.mk n_1 53 [] 2] w W →
 ∃ (base : Nat),
 ∃ (xs : List Value),
 ∃ (news : List Value),
 W.ownsRow base 53 16 (Value.slice (some (Addr.mk n_1 0 none)) 0 0) 0 xs ∧
 news.length = n * 16 ∧
 SrcP W p news ∧
 0 + n ≤ 9223372036854775807 ∧
 (0 + n) * 16 ≤ 140737488355328 ∧
 base ≤ W.heap.size ∧
 ∀ (p' : Option Addr) (c' : Nat) (w' : World),
 w'.ownsRow base 53 16 (Value.slice p' (0 + n) c') (0 + n) (xs ++ news) →
 W.grownBy w' (Value.slice (some (Addr.mk n_1 0 none)) 0 0).ownBlock →
 (0 + n ≤ 0 → p' = some (Addr.mk n_1 0 none) ∧ c' = 0) →
 KeptL [] W w' ∧ R (Ending.returned (Value.slice p' (0 + n) c')) w')
theorem vc_aclone (p : Option Addr) (n : Nat) (c : Nat) (w : World) (R : Ending → World → Prop) (h : VC_aclone p n c w R) : Calls Tryz.prog 77 ([Value.slice
    p n c] : List Value).toArray w R := by
  have e : execR2 { P := Tryz.prog, loops := [], pur := pur1, tails := [], joins := [], boxes := [] } Tryz.f77.results.toList R (Tryz.f77.body.getD .skip) (initF [Value.slice
    p n c] (Tryz.f77.ntmps - ([Value.slice p n c] : List Value).length)) w = VC_aclone p n c w R := by kernel_rfl
  have hb : Tryz.f77.body = some (Tryz.f77.body.getD .skip) := by kernel_rfl
  exact calls_of_exec2' (P := Tryz.prog) (fn := Tryz.f77) (c := Tryz.f77.body.getD .skip) (args := [Value.slice p n
    c]) (w := w) (R := R) pur1_ok Tryz.func77 hb e h

def VC_aequal (p : Option Addr) (n : Nat) (c : Nat) (p2 : Option Addr) (n2 : Nat) (c2 : Nat) (w : World) (R : Ending → World → Prop) : Prop :=
 bsp ((↑n : Int) != (↑n2 : Int)) (R (Ending.returned (Value.bool false)) w)
 (∃ (I : List Value → World → Prop),
 ∃ (m : List Value → World → Nat),
 I [Value.int IntKind.i64 0] w ∧
 ∀ (x : Int) (w' : World),
 I [Value.int IntKind.i64 x] w' →
 bsp (decide (x < (↑n : Int)))
 (nn true p fun (b o : Nat) =>
 (0 ≤ x ∧ x < (↑n : Int)) ∧
 ∃ (f : Nat → Int),
 (∀ (W : World),
 Loc w.heap.size [] w' W →
 AtL W b (o + x.toNat * 16)
 (arrI IntKind.u8 f 16 0)) ∧
 nn true p2 fun (b o : Nat) =>
 (0 ≤ x ∧ x < (↑n2 : Int)) ∧
 ∃ (f_1 : Nat → Int),
 (∀ (W : World),
 Loc w.heap.size [] w' W →
 AtL W b (o + x.toNat * 16)
 (arrI IntKind.u8 f_1 16 0)) ∧
 ∃ (r : Bool),
 EqP Tryz.prog 53
 (Value.agg
 (arrI IntKind.u8 f 16 0).toArray)
 (Value.agg
 (arrI IntKind.u8 f_1 16 0).toArray)
 r ∧
 bsp (!r) (∀ (W : World), Loc w.heap.size [] w' W → R (Ending.returned (Value.bool false)) W)
 (∀ (W : World),
 Loc w.heap.size [] w' W →
 I [Value.int IntKind.i64 (IntKind.i64.wrap (x + 1))] W ∧
 m [Value.int IntKind.i64 (IntKind.i64.wrap (x + 1))] W < m [Value.int IntKind.i64 x] w'))
 (R (Ending.returned (Value.bool true)) w'))
theorem vc_aequal (p : Option Addr) (n : Nat) (c : Nat) (p2 : Option Addr) (n2 : Nat) (c2 : Nat) (w : World) (R : Ending → World → Prop) (h : VC_aequal p n c p2 n2 c2 w R) : Calls Tryz.prog 56 ([Value.slice
    p n c,
  Value.slice p2 n2 c2] : List Value).toArray w R := by
  have e : execR2 { P := Tryz.prog, loops := [(4, [(13, Ck.int IntKind.i64)])], pur := pur1, tails := [], joins := [], boxes := [] } Tryz.f56.results.toList R (Tryz.f56.body.getD .skip) (initF [Value.slice
    p n c,
  Value.slice p2 n2
    c2] (Tryz.f56.ntmps - ([Value.slice p n c,
  Value.slice p2 n2 c2] : List Value).length)) w = VC_aequal p n c p2 n2 c2 w R := by kernel_rfl
  have hb : Tryz.f56.body = some (Tryz.f56.body.getD .skip) := by kernel_rfl
  exact calls_of_exec2' (P := Tryz.prog) (fn := Tryz.f56) (c := Tryz.f56.body.getD .skip) (args := [Value.slice p n c,
  Value.slice p2 n2 c2]) (w := w) (R := R) pur1_ok Tryz.func56 hb e h

def VC_dcheck (id : Nat → Int) (au : Nat → Int) (g : ByteArray) (v : Int) (rm : Bool) (md : Bool) (p : Option Addr) (n : Nat) (c : Nat) (t : ByteArray) (w : World) (R : Ending → World → Prop) : Prop :=
 ∀ (n_1 : Nat) (W : World),
 Loc w.heap.size
 [Blk.mk n_1 56
 (arrI IntKind.u8 id 32 0 ++ (arrI IntKind.u8 au 16 0 ++ [Value.string g,
 Value.int IntKind.i64 v, Value.bool rm, Value.bool md, Value.slice p n c, Value.string t]))
 2]
 w W →
 CallsS Tryz.prog 54 #[Value.string g] W fun (e : Ending) (w' : World) =>
 ∃ (x : Int),
 e = Ending.returned (Value.int IntKind.i64 x) ∧
 KeptL [n_1] W w' ∧
 bsp (x != 0) (R (Ending.returned (Value.int IntKind.i64 x)) w')
 (∃ (x : Int),
 gimp (!decide (v < 0)) (w'.cell? (Addr.mk n_1 (0 + 49) none) = some (Value.int IntKind.i64 x)) ∧
 bsp (decide (v < 0) || decide (x > 1000000)) (R (Ending.returned (Value.int IntKind.i64 2)) w')
 (∃ (x : Bool),
 gimp rm (w'.cell? (Addr.mk n_1 (0 + 51) none) = some (Value.bool x)) ∧
 ∃ (p_1 : Option Addr),
 ∃ (n_2 : Nat),
 ∃ (c_1 : Nat),
 gimp (rm && !x) (w'.cell? (Addr.mk n_1 (0 + 52) none) = some (Value.slice p_1 n_2 c_1)) ∧
 ∃ (x_1 : ByteArray),
 gimp (rm && !(x || decide ((↑n_2 : Int) > 0)))
 (w'.cell? (Addr.mk n_1 (0 + 53) none) = some (Value.string x_1)) ∧
 bsp (rm && (x || decide ((↑n_2 : Int) > 0) || !x_1.toList == []))
 (R (Ending.returned (Value.int IntKind.i64 3)) w')
 (bsp (decide ((↑n : Int) > 8)) (R (Ending.returned (Value.int IntKind.i64 9)) w')
 (∃ (I : List Value → World → Prop),
 ∃ (m : List Value → World → Nat),
 I [Value.int IntKind.i64 0] w' ∧
 ∀ (x : Int) (w' : World),
 I [Value.int IntKind.i64 x] w' →
 Loc w.heap.size
 [Blk.mk n_1 56
 (arrI IntKind.u8 id 32 0 ++ (arrI IntKind.u8 au 16 0 ++ [Value.string g, Value.int IntKind.i64 v, Value.bool rm, Value.bool md, Value.slice p n c,
 Value.string t]))
 0]
 w' w' →
 bsp (decide (x < (↑n : Int)))
 (nn true p fun (b o : Nat) =>
 (0 ≤ x ∧ x < (↑n : Int)) ∧
 ∃ (f : Nat → Int),
 AtL w' b (o + x.toNat * 16)
 (arrI IntKind.u8 f 16 0) ∧
 ∀ (n_3 : Nat),
 (0 ≤ x ∧ x ≤ (↑c : Int)) ∧
 ∀ (W : World),
 Loc w.heap.size
 [Blk.mk n_1 56
 (arrI IntKind.u8 id 32 0 ++ (arrI IntKind.u8 au 16 0 ++ [Value.string g,
 Value.int IntKind.i64 v, Value.bool rm, Value.bool md, Value.slice p n c,
 Value.string t]))
 0,
 Blk.mk n_3 53
 (arrI IntKind.u8 f 16 0)
 (wrM 2)]
 w' W →
 CallsS Tryz.prog 52
 #[Value.slice p x.toNat c,
 Value.agg
 (arrI IntKind.u8 f 16 0).toArray]
 W fun (e : Ending) (w'_1 : World) =>
 ∃ (x_2 : Bool),
 e = Ending.returned (Value.bool x_2) ∧
 KeptL [n_1, n_3] W w'_1 ∧
 bsp x_2 (R (Ending.returned (Value.int IntKind.i64 7)) w'_1)
 (I [Value.int IntKind.i64 (IntKind.i64.wrap (x + 1))] w'_1 ∧
 m [Value.int IntKind.i64 (IntKind.i64.wrap (x + 1))] w'_1 <
 m [Value.int IntKind.i64 x] w'))
 (bsp (decide ((↑t.size : Int) > 200)) (R (Ending.returned (Value.int IntKind.i64 5)) w')
 (R (Ending.returned (Value.int IntKind.i64 0)) w'))))))
theorem vc_dcheck (id : Nat → Int) (au : Nat → Int) (g : ByteArray) (v : Int) (rm : Bool) (md : Bool) (p : Option Addr) (n : Nat) (c : Nat) (t : ByteArray) (w : World) (R : Ending → World → Prop) (h : VC_dcheck id au g v rm md p n c t w R) : Calls Tryz.prog 24 ([Value.agg
    (arrI IntKind.u8 id 32 0 ++
        (arrI IntKind.u8 au 16 0 ++
          [Value.string g, Value.int IntKind.i64 v, Value.bool rm, Value.bool md, Value.slice p n c,
            Value.string t])).toArray] : List Value).toArray w R := by
  have e : execR2 { P := Tryz.prog, loops := [(11, [(47, Ck.int IntKind.i64)])], pur := pur1, tails := [(13, 5)], joins := [], boxes := [] } Tryz.f24.results.toList R (Tryz.f24.body.getD .skip) (initF [Value.agg
    (arrI IntKind.u8 id 32 0 ++
        (arrI IntKind.u8 au 16 0 ++
          [Value.string g, Value.int IntKind.i64 v, Value.bool rm, Value.bool md, Value.slice p n c,
            Value.string
              t])).toArray] (Tryz.f24.ntmps - ([Value.agg
    (arrI IntKind.u8 id 32 0 ++
        (arrI IntKind.u8 au 16 0 ++
          [Value.string g, Value.int IntKind.i64 v, Value.bool rm, Value.bool md, Value.slice p n c,
            Value.string t])).toArray] : List Value).length)) w = VC_dcheck id au g v rm md p n c t w R := by kernel_rfl
  have hb : Tryz.f24.body = some (Tryz.f24.body.getD .skip) := by kernel_rfl
  exact calls_of_exec2' (P := Tryz.prog) (fn := Tryz.f24) (c := Tryz.f24.body.getD .skip) (args := [Value.agg
    (arrI IntKind.u8 id 32 0 ++
        (arrI IntKind.u8 au 16 0 ++
          [Value.string g, Value.int IntKind.i64 v, Value.bool rm, Value.bool md, Value.slice p n c,
            Value.string t])).toArray]) (w := w) (R := R) pur1_ok Tryz.func24 hb e h

def VC_dclone (id : Nat → Int) (au : Nat → Int) (g : ByteArray) (v : Int) (rm : Bool) (md : Bool) (p : Option Addr) (n : Nat) (c : Nat) (t : ByteArray) (w : World) (R : Ending → World → Prop) : Prop :=
 ∀ (n_1 n_2 : Nat) (W : World),
 Loc w.heap.size
 [Blk.mk n_2 56
 [Value.int IntKind.u8 0, Value.int IntKind.u8 0, Value.int IntKind.u8 0, Value.int IntKind.u8 0,
 Value.int IntKind.u8 0, Value.int IntKind.u8 0, Value.int IntKind.u8 0, Value.int IntKind.u8 0,
 Value.int IntKind.u8 0, Value.int IntKind.u8 0, Value.int IntKind.u8 0, Value.int IntKind.u8 0,
 Value.int IntKind.u8 0, Value.int IntKind.u8 0, Value.int IntKind.u8 0, Value.int IntKind.u8 0,
 Value.int IntKind.u8 0, Value.int IntKind.u8 0, Value.int IntKind.u8 0, Value.int IntKind.u8 0,
 Value.int IntKind.u8 0, Value.int IntKind.u8 0, Value.int IntKind.u8 0, Value.int IntKind.u8 0,
 Value.int IntKind.u8 0, Value.int IntKind.u8 0, Value.int IntKind.u8 0, Value.int IntKind.u8 0,
 Value.int IntKind.u8 0, Value.int IntKind.u8 0, Value.int IntKind.u8 0, Value.int IntKind.u8 0,
 Value.int IntKind.u8 0, Value.int IntKind.u8 0, Value.int IntKind.u8 0, Value.int IntKind.u8 0,
 Value.int IntKind.u8 0, Value.int IntKind.u8 0, Value.int IntKind.u8 0, Value.int IntKind.u8 0,
 Value.int IntKind.u8 0, Value.int IntKind.u8 0, Value.int IntKind.u8 0, Value.int IntKind.u8 0,
 Value.int IntKind.u8 0, Value.int IntKind.u8 0, Value.int IntKind.u8 0, Value.int IntKind.u8 0,
 Value.string (ByteArray.mk #[]), Value.int IntKind.i64 0, Value.bool false, Value.bool false,
 Value.slice none 0 0, Value.string (ByteArray.mk #[])]
 2,
 Blk.mk n_1 56
 (arrI IntKind.u8 id 32 0 ++ (arrI IntKind.u8 au 16 0 ++ [Value.string g,
 Value.int IntKind.i64 v, Value.bool rm, Value.bool md, Value.slice p n c, Value.string t]))
 2]
 w W →
 CallsS Tryz.prog 77 #[Value.slice p n c] W fun (e : Ending) (w' : World) =>
 ∃ (p : Option Addr),
 ∃ (n : Nat),
 ∃ (c : Nat),
 e = Ending.returned (Value.slice p n c) ∧
 KeptL [n_2, n_1] W w' ∧
 ∀ (W : World),
 Loc w.heap.size
 [Blk.mk n_2 56
 (arrI IntKind.u8 id 32 0 ++ (arrI IntKind.u8 au 16 0 ++ [Value.string g,
 Value.int IntKind.i64 v, Value.bool rm, Value.bool md, Value.slice p n c, Value.string t]))
 (wrM 0),
 Blk.mk n_1 56
 (arrI IntKind.u8 id 32 0 ++ (arrI IntKind.u8 au 16 0 ++ [Value.string g,
 Value.int IntKind.i64 v, Value.bool rm, Value.bool md, Value.slice p n c, Value.string t]))
 (wrM 0)]
 w' W →
 R
 (Ending.returned
 (Value.agg
 (arrI IntKind.u8 id 32 0 ++ (arrI IntKind.u8 au 16 0 ++ [Value.string g,
 Value.int IntKind.i64 v, Value.bool rm, Value.bool md, Value.slice p n c, Value.string t])).toArray))
 W
theorem vc_dclone (id : Nat → Int) (au : Nat → Int) (g : ByteArray) (v : Int) (rm : Bool) (md : Bool) (p : Option Addr) (n : Nat) (c : Nat) (t : ByteArray) (w : World) (R : Ending → World → Prop) (h : VC_dclone id au g v rm md p n c t w R) : Calls Tryz.prog 53 ([Value.agg
    (arrI IntKind.u8 id 32 0 ++
        (arrI IntKind.u8 au 16 0 ++
          [Value.string g, Value.int IntKind.i64 v, Value.bool rm, Value.bool md, Value.slice p n c,
            Value.string t])).toArray] : List Value).toArray w R := by
  have e : execR2 { P := Tryz.prog, loops := [], pur := pur1, tails := [], joins := [], boxes := [] } Tryz.f53.results.toList R (Tryz.f53.body.getD .skip) (initF [Value.agg
    (arrI IntKind.u8 id 32 0 ++
        (arrI IntKind.u8 au 16 0 ++
          [Value.string g, Value.int IntKind.i64 v, Value.bool rm, Value.bool md, Value.slice p n c,
            Value.string
              t])).toArray] (Tryz.f53.ntmps - ([Value.agg
    (arrI IntKind.u8 id 32 0 ++
        (arrI IntKind.u8 au 16 0 ++
          [Value.string g, Value.int IntKind.i64 v, Value.bool rm, Value.bool md, Value.slice p n c,
            Value.string t])).toArray] : List Value).length)) w = VC_dclone id au g v rm md p n c t w R := by kernel_rfl
  have hb : Tryz.f53.body = some (Tryz.f53.body.getD .skip) := by kernel_rfl
  exact calls_of_exec2' (P := Tryz.prog) (fn := Tryz.f53) (c := Tryz.f53.body.getD .skip) (args := [Value.agg
    (arrI IntKind.u8 id 32 0 ++
        (arrI IntKind.u8 au 16 0 ++
          [Value.string g, Value.int IntKind.i64 v, Value.bool rm, Value.bool md, Value.slice p n c,
            Value.string t])).toArray]) (w := w) (R := R) pur1_ok Tryz.func53 hb e h

def VC_dequal (id : Nat → Int) (au : Nat → Int) (g : ByteArray) (v : Int) (rm : Bool) (md : Bool) (p : Option Addr) (n : Nat) (c : Nat) (t : ByteArray) (id2 : Nat → Int) (au2 : Nat → Int) (g2 : ByteArray) (v2 : Int) (rm2 : Bool) (md2 : Bool) (p2 : Option Addr) (n2 : Nat) (c2 : Nat) (t2 : ByteArray) (w : World) (R : Ending → World → Prop) : Prop :=
 ∀ (n_1 n_2 : Nat),
 ∃ (r : Bool),
 EqP Tryz.prog 52
 (Value.agg
 (arrI IntKind.u8 id 32 0).toArray)
 (Value.agg
 (arrI IntKind.u8 id2 32 0).toArray)
 r ∧
 ∃ (f : Nat → Int),
 gimp r
 (∀ (W : World),
 Loc w.heap.size
 [Blk.mk n_2 56
 (arrI IntKind.u8 id2 32 0 ++ (arrI IntKind.u8 au2 16 0 ++ [Value.string g2, Value.int IntKind.i64 v2, Value.bool rm2, Value.bool md2, Value.slice p2 n2 c2,
 Value.string t2]))
 2,
 Blk.mk n_1 56
 (arrI IntKind.u8 id 32 0 ++ (arrI IntKind.u8 au 16 0 ++ [Value.string g,
 Value.int IntKind.i64 v, Value.bool rm, Value.bool md, Value.slice p n c, Value.string t]))
 2]
 w W →
 AtL W n_1 (0 + 32)
 (arrI IntKind.u8 f 16 0)) ∧
 ∃ (f_1 : Nat → Int),
 gimp r
 (∀ (W : World),
 Loc w.heap.size
 [Blk.mk n_2 56
 (arrI IntKind.u8 id2 32 0 ++ (arrI IntKind.u8 au2 16 0 ++ [Value.string g2, Value.int IntKind.i64 v2, Value.bool rm2, Value.bool md2, Value.slice p2 n2 c2,
 Value.string t2]))
 2,
 Blk.mk n_1 56
 (arrI IntKind.u8 id 32 0 ++ (arrI IntKind.u8 au 16 0 ++ [Value.string g,
 Value.int IntKind.i64 v, Value.bool rm, Value.bool md, Value.slice p n c, Value.string t]))
 2]
 w W →
 AtL W n_2 (0 + 32)
 (arrI IntKind.u8 f_1 16 0)) ∧
 ∃ (r_1 : Bool),
 gimp r
 (EqP Tryz.prog 53
 (Value.agg
 (arrI IntKind.u8 f 16 0).toArray)
 (Value.agg
 (arrI IntKind.u8 f_1 16 0).toArray)
 r_1) ∧
 ∃ (x : ByteArray),
 gimp (r && r_1)
 (∀ (W : World),
 Loc w.heap.size
 [Blk.mk n_2 56
 (arrI IntKind.u8 id2 32 0 ++ (arrI IntKind.u8 au2 16 0 ++ [Value.string g2, Value.int IntKind.i64 v2, Value.bool rm2, Value.bool md2, Value.slice p2 n2 c2,
 Value.string t2]))
 2,
 Blk.mk n_1 56
 (arrI IntKind.u8 id 32 0 ++ (arrI IntKind.u8 au 16 0 ++ [Value.string g, Value.int IntKind.i64 v, Value.bool rm, Value.bool md, Value.slice p n c,
 Value.string t]))
 2]
 w W →
 W.cell? (Addr.mk n_1 (0 + 48) none) = some (Value.string x)) ∧
 ∃ (x_1 : ByteArray),
 gimp (r && r_1)
 (∀ (W : World),
 Loc w.heap.size
 [Blk.mk n_2 56
 (arrI IntKind.u8 id2 32 0 ++ (arrI IntKind.u8 au2 16 0 ++ [Value.string g2, Value.int IntKind.i64 v2, Value.bool rm2, Value.bool md2, Value.slice p2 n2 c2,
 Value.string t2]))
 2,
 Blk.mk n_1 56
 (arrI IntKind.u8 id 32 0 ++ (arrI IntKind.u8 au 16 0 ++ [Value.string g, Value.int IntKind.i64 v, Value.bool rm, Value.bool md, Value.slice p n c,
 Value.string t]))
 2]
 w W →
 W.cell? (Addr.mk n_2 (0 + 48) none) = some (Value.string x_1)) ∧
 ∃ (x_2 : Int),
 gimp (r && r_1 && x.toList == x_1.toList)
 (∀ (W : World),
 Loc w.heap.size
 [Blk.mk n_2 56
 (arrI IntKind.u8 id2 32 0 ++ (arrI IntKind.u8 au2 16 0 ++ [Value.string g2, Value.int IntKind.i64 v2, Value.bool rm2, Value.bool md2, Value.slice p2 n2 c2,
 Value.string t2]))
 2,
 Blk.mk n_1 56
 (arrI IntKind.u8 id 32 0 ++ (arrI IntKind.u8 au 16 0 ++ [Value.string g, Value.int IntKind.i64 v, Value.bool rm, Value.bool md, Value.slice p n c,
 Value.string t]))
 2]
 w W →
 W.cell? (Addr.mk n_1 (0 + 49) none) = some (Value.int IntKind.i64 x_2)) ∧
 ∃ (x_3 : Int),
 gimp (r && r_1 && x.toList == x_1.toList)
 (∀ (W : World),
 Loc w.heap.size
 [Blk.mk n_2 56
 (arrI IntKind.u8 id2 32 0 ++ (arrI IntKind.u8 au2 16 0 ++ [Value.string g2, Value.int IntKind.i64 v2, Value.bool rm2, Value.bool md2, Value.slice p2 n2 c2,
 Value.string t2]))
 2,
 Blk.mk n_1 56
 (arrI IntKind.u8 id 32 0 ++ (arrI IntKind.u8 au 16 0 ++ [Value.string g, Value.int IntKind.i64 v, Value.bool rm, Value.bool md, Value.slice p n c,
 Value.string t]))
 2]
 w W →
 W.cell? (Addr.mk n_2 (0 + 49) none) = some (Value.int IntKind.i64 x_3)) ∧
 ∃ (x_4 : Bool),
 gimp (r && r_1 && x.toList == x_1.toList && x_2 == x_3)
 (∀ (W : World),
 Loc w.heap.size
 [Blk.mk n_2 56
 (arrI IntKind.u8 id2 32 0 ++ (arrI IntKind.u8 au2 16 0 ++ [Value.string g2, Value.int IntKind.i64 v2, Value.bool rm2, Value.bool md2,
 Value.slice p2 n2 c2, Value.string t2]))
 2,
 Blk.mk n_1 56
 (arrI IntKind.u8 id 32 0 ++ (arrI IntKind.u8 au 16 0 ++ [Value.string g, Value.int IntKind.i64 v, Value.bool rm, Value.bool md, Value.slice p n c,
 Value.string t]))
 2]
 w W →
 W.cell? (Addr.mk n_1 (0 + 50) none) = some (Value.bool x_4)) ∧
 ∃ (x_5 : Bool),
 gimp (r && r_1 && x.toList == x_1.toList && x_2 == x_3)
 (∀ (W : World),
 Loc w.heap.size
 [Blk.mk n_2 56
 (arrI IntKind.u8 id2 32 0 ++ (arrI IntKind.u8 au2 16 0 ++ [Value.string g2, Value.int IntKind.i64 v2, Value.bool rm2, Value.bool md2,
 Value.slice p2 n2 c2, Value.string t2]))
 2,
 Blk.mk n_1 56
 (arrI IntKind.u8 id 32 0 ++ (arrI IntKind.u8 au 16 0 ++ [Value.string g, Value.int IntKind.i64 v, Value.bool rm, Value.bool md, Value.slice p n c,
 Value.string t]))
 2]
 w W →
 W.cell? (Addr.mk n_2 (0 + 50) none) = some (Value.bool x_5)) ∧
 ∃ (x_6 : Bool),
 gimp (r && r_1 && x.toList == x_1.toList && x_2 == x_3 && x_4 == x_5)
 (∀ (W : World),
 Loc w.heap.size
 [Blk.mk n_2 56
 (arrI IntKind.u8 id2 32 0 ++ (arrI IntKind.u8 au2 16 0 ++ [Value.string g2, Value.int IntKind.i64 v2, Value.bool rm2,
 Value.bool md2, Value.slice p2 n2 c2, Value.string t2]))
 2,
 Blk.mk n_1 56
 (arrI IntKind.u8 id 32 0 ++ (arrI IntKind.u8 au 16 0 ++ [Value.string g, Value.int IntKind.i64 v, Value.bool rm, Value.bool md, Value.slice p n c,
 Value.string t]))
 2]
 w W →
 W.cell? (Addr.mk n_1 (0 + 51) none) = some (Value.bool x_6)) ∧
 ∃ (x_7 : Bool),
 gimp (r && r_1 && x.toList == x_1.toList && x_2 == x_3 && x_4 == x_5)
 (∀ (W : World),
 Loc w.heap.size
 [Blk.mk n_2 56
 (arrI IntKind.u8 id2 32 0 ++ (arrI IntKind.u8 au2 16 0 ++ [Value.string g2,
 Value.int IntKind.i64 v2, Value.bool rm2, Value.bool md2, Value.slice p2 n2 c2,
 Value.string t2]))
 2,
 Blk.mk n_1 56
 (arrI IntKind.u8 id 32 0 ++ (arrI IntKind.u8 au 16 0 ++ [Value.string g,
 Value.int IntKind.i64 v, Value.bool rm, Value.bool md, Value.slice p n c,
 Value.string t]))
 2]
 w W →
 W.cell? (Addr.mk n_2 (0 + 51) none) = some (Value.bool x_7)) ∧
 ∃ (p_1 : Option Addr),
 ∃ (n_3 : Nat),
 ∃ (c_1 : Nat),
 gimp (r && r_1 && x.toList == x_1.toList && x_2 == x_3 && x_4 == x_5 && x_6 == x_7)
 (∀ (W : World),
 Loc w.heap.size
 [Blk.mk n_2 56
 (arrI IntKind.u8 id2 32 0 ++ (arrI IntKind.u8 au2 16 0 ++ [Value.string g2,
 Value.int IntKind.i64 v2, Value.bool rm2, Value.bool md2, Value.slice p2 n2 c2,
 Value.string t2]))
 2,
 Blk.mk n_1 56
 (arrI IntKind.u8 id 32 0 ++ (arrI IntKind.u8 au 16 0 ++ [Value.string g,
 Value.int IntKind.i64 v, Value.bool rm, Value.bool md, Value.slice p n c,
 Value.string t]))
 2]
 w W →
 W.cell? (Addr.mk n_1 (0 + 52) none) = some (Value.slice p_1 n_3 c_1)) ∧
 ∃ (p_2 : Option Addr),
 ∃ (n_4 : Nat),
 ∃ (c_2 : Nat),
 gimp (r && r_1 && x.toList == x_1.toList && x_2 == x_3 && x_4 == x_5 && x_6 == x_7)
 (∀ (W : World),
 Loc w.heap.size
 [Blk.mk n_2 56
 (arrI IntKind.u8 id2 32 0 ++ (arrI IntKind.u8 au2 16 0 ++ [Value.string g2,
 Value.int IntKind.i64 v2, Value.bool rm2, Value.bool md2, Value.slice p2 n2 c2,
 Value.string t2]))
 2,
 Blk.mk n_1 56
 (arrI IntKind.u8 id 32 0 ++ (arrI IntKind.u8 au 16 0 ++ [Value.string g,
 Value.int IntKind.i64 v, Value.bool rm, Value.bool md, Value.slice p n c,
 Value.string t]))
 2]
 w W →
 W.cell? (Addr.mk n_2 (0 + 52) none) = some (Value.slice p_2 n_4 c_2)) ∧
 ∀ (W : World),
 Loc w.heap.size
 [Blk.mk n_2 56
 (arrI IntKind.u8 id2 32 0 ++ (arrI IntKind.u8 au2 16 0 ++ [Value.string g2,
 Value.int IntKind.i64 v2, Value.bool rm2, Value.bool md2, Value.slice p2 n2 c2,
 Value.string t2]))
 2,
 Blk.mk n_1 56
 (arrI IntKind.u8 id 32 0 ++ (arrI IntKind.u8 au 16 0 ++ [Value.string g,
 Value.int IntKind.i64 v, Value.bool rm, Value.bool md, Value.slice p n c,
 Value.string t]))
 2]
 w W →
 bsp (r && r_1 && x.toList == x_1.toList && x_2 == x_3 && x_4 == x_5 && x_6 == x_7)
 (CallsS Tryz.prog 56 #[Value.slice p_1 n_3 c_1, Value.slice p_2 n_4 c_2] W
 fun (e : Ending) (w' : World) =>
 ∃ (x : Bool),
 e = Ending.returned (Value.bool x) ∧
 KeptL [n_2, n_1] W w' ∧
 ∃ (x_8 : ByteArray),
 gimp (true && x)
 (w'.cell? (Addr.mk n_1 (0 + 53) none) = some (Value.string x_8)) ∧
 ∃ (x_9 : ByteArray),
 gimp (true && x)
 (w'.cell? (Addr.mk n_2 (0 + 53) none) = some (Value.string x_9)) ∧
 R (Ending.returned (Value.bool (true && x && x_8.toList == x_9.toList))) w')
 (KeptL [n_2, n_1] W W ∧
 ∃ (x : ByteArray),
 True ∧
 ∃ (x_8 : ByteArray),
 True ∧ R (Ending.returned (Value.bool (false && x.toList == x_8.toList))) W)
theorem vc_dequal (id : Nat → Int) (au : Nat → Int) (g : ByteArray) (v : Int) (rm : Bool) (md : Bool) (p : Option Addr) (n : Nat) (c : Nat) (t : ByteArray) (id2 : Nat → Int) (au2 : Nat → Int) (g2 : ByteArray) (v2 : Int) (rm2 : Bool) (md2 : Bool) (p2 : Option Addr) (n2 : Nat) (c2 : Nat) (t2 : ByteArray) (w : World) (R : Ending → World → Prop) (h : VC_dequal id au g v rm md p n c t id2 au2 g2 v2 rm2 md2 p2 n2 c2 t2 w R) : Calls Tryz.prog 27 ([Value.agg
    (arrI IntKind.u8 id 32 0 ++
        (arrI IntKind.u8 au 16 0 ++
          [Value.string g, Value.int IntKind.i64 v, Value.bool rm, Value.bool md, Value.slice p n c,
            Value.string t])).toArray,
  Value.agg
    (arrI IntKind.u8 id2 32 0 ++
        (arrI IntKind.u8 au2 16 0 ++
          [Value.string g2, Value.int IntKind.i64 v2, Value.bool rm2, Value.bool md2, Value.slice p2 n2 c2,
            Value.string t2])).toArray] : List Value).toArray w R := by
  have e : execR2 { P := Tryz.prog, loops := [], pur := pur1, tails := [], joins := [], boxes := [] } Tryz.f27.results.toList R (Tryz.f27.body.getD .skip) (initF [Value.agg
    (arrI IntKind.u8 id 32 0 ++
        (arrI IntKind.u8 au 16 0 ++
          [Value.string g, Value.int IntKind.i64 v, Value.bool rm, Value.bool md, Value.slice p n c,
            Value.string t])).toArray,
  Value.agg
    (arrI IntKind.u8 id2 32 0 ++
        (arrI IntKind.u8 au2 16 0 ++
          [Value.string g2, Value.int IntKind.i64 v2, Value.bool rm2, Value.bool md2, Value.slice p2 n2 c2,
            Value.string
              t2])).toArray] (Tryz.f27.ntmps - ([Value.agg
    (arrI IntKind.u8 id 32 0 ++
        (arrI IntKind.u8 au 16 0 ++
          [Value.string g, Value.int IntKind.i64 v, Value.bool rm, Value.bool md, Value.slice p n c,
            Value.string t])).toArray,
  Value.agg
    (arrI IntKind.u8 id2 32 0 ++
        (arrI IntKind.u8 au2 16 0 ++
          [Value.string g2, Value.int IntKind.i64 v2, Value.bool rm2, Value.bool md2, Value.slice p2 n2 c2,
            Value.string
              t2])).toArray] : List Value).length)) w = VC_dequal id au g v rm md p n c t id2 au2 g2 v2 rm2 md2 p2 n2 c2 t2 w R := by kernel_rfl
  have hb : Tryz.f27.body = some (Tryz.f27.body.getD .skip) := by kernel_rfl
  exact calls_of_exec2' (P := Tryz.prog) (fn := Tryz.f27) (c := Tryz.f27.body.getD .skip) (args := [Value.agg
    (arrI IntKind.u8 id 32 0 ++
        (arrI IntKind.u8 au 16 0 ++
          [Value.string g, Value.int IntKind.i64 v, Value.bool rm, Value.bool md, Value.slice p n c,
            Value.string t])).toArray,
  Value.agg
    (arrI IntKind.u8 id2 32 0 ++
        (arrI IntKind.u8 au2 16 0 ++
          [Value.string g2, Value.int IntKind.i64 v2, Value.bool rm2, Value.bool md2, Value.slice p2 n2 c2,
            Value.string t2])).toArray]) (w := w) (R := R) pur1_ok Tryz.func27 hb e h

end Go.Proofs.YtkkfnlehlkiejaaGreatDoor

/- Chapter 21: the contracts of rows of authors, of Definition.Check, clone, Equal. Bytes are bytes; the library's variable MaxLen holds a number. -/
namespace Go.Proofs.YtkkfnlehlkiejaaGreatDoor
open Go.RowKit

def BY (f : Nat → Int) : Prop := ∀ j : Nat, 0 ≤ f j ∧ f j ≤ 255
structure Df.OK (d : Df) : Prop where
  id : BY d.id
  au : BY d.au
  ms : ∀ m ∈ d.ms, BY m
theorem str_eq {a b : ByteArray} (h : a.toList = b.toList) : a = b := by
  rw [ByteArray.toList_eq, ByteArray.toList_eq] at h
  exact ByteArray.ext (Array.toList_inj.1 h)
theorem str_beq (a b : ByteArray) : (a.toList == b.toList) = decide (a = b) := by
  rw [Bool.eq_iff_iff]
  simp only [beq_iff_eq, decide_eq_true_eq]
  exact ⟨str_eq, fun h => by rw [h]⟩
theorem auI_len (f : Nat → Int) : (auI f).length = 16 := by simp [auI]
theorem auI_bd {f : Nat → Int} (h : BY f) : ∀ x ∈ auI f, 0 ≤ x ∧ x ≤ 255 := fun x hx => by
  obtain ⟨j, _, rfl⟩ := List.mem_map.1 hx
  exact h j
theorem auEq {f g : Nat → Int} (hf : BY f) (hg : BY g) : EqP Tryz.prog 53 (.agg (arrI .u8 f 16 0).toArray) (.agg (arrI .u8 g 16 0).toArray) (decide (auI f = auI g)) :=
  eq_bytes Tryz.underlying53 Tryz.underlying5 (by kernel_rfl) (by kernel_rfl) (by kernel_rfl) (by decide +kernel) (by kernel_rfl) (by kernel_rfl) (auI_len f) (auI_bd hf) (auI_len g) (auI_bd hg)
theorem idEqF {f g : Nat → Int} (hf : BY f) (hg : BY g) : EqP Tryz.prog 52 (.agg (arrI .u8 f 32 0).toArray) (.agg (arrI .u8 g 32 0).toArray) (decide (idI f = idI g)) :=
  idEq (idI_len f) (idI_bd hf) (idI_len g) (idI_bd hg)
theorem RowA.take {α : Type} {f : α → List Value} {L : Nat} {w : World} {p : Option Addr} {l : List α} (h : RowA f L w p l) (m : Nat) : RowA f L w p (l.take m) := fun k y hy => by
  rw [List.getElem?_take] at hy
  split at hy
  · exact h k y hy
  · cases hy
theorem src_rowA {α : Type} {f : α → List Value} {L : Nat} {w : World} {p : Option Addr} {l : List α} (h : RowA f L w p l) (hl : ∀ y, (f y).length = L) (h1 : ∀ y, ∀ u ∈ f y, u.oneCell' = true) (h0 : 0 < L) : SrcP w p (l.flatMap f) := by
  refine ⟨fun j u hj => ?_, fun u hu => by obtain ⟨z, _, hz⟩ := List.mem_flatMap.1 hu; exact h1 z u hz⟩
  have hlt := (List.getElem?_eq_some_iff.1 hj).1
  rw [len_flat f L l (fun y _ => hl y)] at hlt
  have hdiv : j / L < l.length := Nat.div_lt_of_lt_mul (by rw [Nat.mul_comm]; exact hlt)
  have hj2 : j / L * L + j % L = j := by rw [Nat.mul_comm]; exact Nat.div_add_mod j L
  obtain ⟨y, b, o, hy, hp, hat⟩ := h.get hdiv
  have h1 := flat_get f L l (j / L) y (j % L) (fun y _ => hl y) hy (Nat.mod_lt _ h0)
  rw [hj2, hj] at h1
  refine ⟨b, o, hp, ?_⟩
  have := hat.cell h1.symm
  rwa [Nat.add_assoc, hj2] at this
theorem arr_one (f : Nat → Int) (n : Nat) : ∀ u ∈ arrI .u8 f n 0, u.oneCell' = true := fun u hu => by
  obtain ⟨j, hj, e⟩ := List.getElem_of_mem hu
  have hl : ∀ (n i : Nat), (arrI .u8 f n i).length = n := fun n => by
    induction n with
    | zero => intro i; rfl
    | succ n ih => intro i; simp [arrI, ih]
  have hj' : j < n := by rw [hl] at hj; exact hj
  have := arrI_get .u8 f n 0 j hj'
  rw [List.getElem?_eq_getElem hj] at this
  simp at this
  rw [← e, this]; rfl
theorem rowA_none {α : Type} {f : α → List Value} {L : Nat} {w : World} {l : List α} (h : RowA f L w none l) : l = [] := by
  cases l with
  | nil => rfl
  | cons x r => obtain ⟨_, _, h, _⟩ := h 0 x rfl; cases h

/-! ### Rows of authors -/
theorem aidx_any (l : List (Nat → Int)) (p : Option Addr) (c : Nat) (a : Nat → Int) (w : World) (hR : RowA auC 16 w p l) (hm : ∀ m ∈ l, BY m) (ha : BY a) (hl : l.length ≤ 4611686018427387904) :
    Calls Tryz.prog 76 #[.slice p l.length c, .agg (arrI .u8 a 16 0).toArray] w fun e w' => (∃ x : Int, e = .returned (.int .i64 x) ∧ decide (x ≥ 0) = decide (auI a ∈ l.map auI)) ∧ K0 w w' := by
  refine vc_aidx p l.length c a w _ (fun n1 W hW => ?_)
  have kW : K0 w W := hW.kk rfl
  refine ⟨fun vs w' => ∃ i : Nat, vs = [.int .i64 (i : Int)] ∧ i ≤ l.length ∧ (∀ (j : Nat) (z : Nat → Int), j < i → l[j]? = some z → auI a ≠ auI z) ∧ K0 w w',
    fun vs _ => (match vs with | .int _ x :: _ => l.length - x.toNat | _ => 0), ⟨0, rfl, by omega, (fun j z h => by omega), kW⟩, ?_⟩
  rintro x w1 ⟨i, hv, hi, hall, k1⟩ _
  simp only [List.cons.injEq, Value.int.injEq, true_and, and_true] at hv
  subst hv
  refine bsp_intro (fun hlt => ?_) (fun hge => ?_)
  · have hlt : i < l.length := by simp at hlt; omega
    obtain ⟨z, b, o, hz, hp, hat⟩ := (hR.k0 k1).get hlt
    rw [Int.toNat_natCast]
    refine nn_is hp ⟨⟨by omega, by omega⟩, z, fun W hW => hat.k0 (hW.kk rfl), _, auEq ha (hm z (List.mem_of_getElem? hz)), bsp_intro (fun h => fun W hW => ?_) (fun h => fun W hW => ?_)⟩
    · have h : auI a = auI z := of_decide_eq_true h
      have : auI a ∈ l.map auI := List.mem_map.2 ⟨z, List.mem_of_getElem? hz, h.symm⟩
      exact ⟨⟨i, rfl, by rw [decide_eq_true this]; simp⟩, k1.trans (hW.kk rfl)⟩
    · have h : ¬ auI a = auI z := of_decide_eq_false h
      refine ⟨⟨i + 1, by rw [inc64 (by omega)], hlt, fun j y hj hy => ?_, k1.trans (hW.kk rfl)⟩, by rw [inc64 (by omega)]; simp only [Int.toNat_natCast]; omega⟩
      by_cases e : j = i
      · rw [e, hz] at hy; cases hy; exact h
      · exact hall j y (by omega) hy
  · have hi : i = l.length := by simp at hge; omega
    subst hi
    have : ¬ auI a ∈ l.map auI := fun hm => by
      obtain ⟨z, hz, e⟩ := List.mem_map.1 hm
      obtain ⟨j, hj, e2⟩ := List.getElem_of_mem hz
      exact hall j z hj (by rw [List.getElem?_eq_getElem hj, e2]) e.symm
    exact ⟨⟨-1, rfl, by rw [decide_eq_false this]; rfl⟩, k1⟩
theorem acont_any (l : List (Nat → Int)) (p : Option Addr) (c : Nat) (a : Nat → Int) (w : World) (hR : RowA auC 16 w p l) (hm : ∀ m ∈ l, BY m) (ha : BY a) (hl : l.length ≤ 4611686018427387904) :
    Calls Tryz.prog 52 #[.slice p l.length c, .agg (arrI .u8 a 16 0).toArray] w fun e w' => e = .returned (.bool (decide (auI a ∈ l.map auI))) ∧ K0 w w' := by
  refine vc_acont p l.length c a w _ (fun n1 W hW => ?_)
  have kW : K0 w W := hW.kk rfl
  exact ⟨(aidx_any l p c a W (hR.k0 kW) hm ha hl).mono fun e w1 ⟨⟨x, he, hx⟩, k1⟩ => ⟨_, he, .of_k0 k1, by rw [hx], kW.trans k1⟩⟩
theorem aclone_any (l : List (Nat → Int)) (p : Option Addr) (c : Nat) (w : World) (hR : RowA auC 16 w p l) (hl : l.length * 16 ≤ 140737488355328) :
    Calls Tryz.prog 77 #[.slice p l.length c] w fun e w' => (∃ (p' : Option Addr) (c' : Nat), e = .returned (.slice p' l.length c') ∧ w'.ownsRow w.heap.size 53 16 (.slice p' l.length c') l.length (l.flatMap auC)) ∧ K0 w w' := by
  refine vc_aclone p l.length c w _ (bsp_intro (fun h => ?_) (fun h => fun n1 W hW => ?_))
  · obtain rfl : p = none := by simpa using h
    have := rowA_none hR
    subst this
    exact ⟨⟨none, 0, rfl, World.ownsRow_nil _ _ _ _⟩, .refl _ _⟩
  have kW : K0 w W := hW.kk rfl
  have g1 : w.heap.size ≤ n1 := hW.fresh 0 rfl rfl
  have h0 := hW.cells 0 rfl
  refine ⟨w.heap.size, [], l.flatMap auC, own_none g1 h0, by rw [len_flat auC 16 l (fun y _ => auC_length y)], src_rowA (hR.k0 kW) auC_length (fun y => arr_one y 16) (by decide), by omega, by omega, kW.size, fun p' c' w' ho hg _ => ?_⟩
  rw [Nat.zero_add] at ho
  rw [Nat.zero_add]
  refine ⟨⟨(kp_grown hg).size, fun _ hx => by cases hx⟩, ⟨p', c', rfl, by simpa using ho⟩, kW.fresh (kp_grown hg) (fun j hj e => by simp only [Value.ownBlock, Option.some.injEq] at e; omega)⟩
theorem aequal_any (a b : List (Nat → Int)) (p : Option Addr) (c : Nat) (q : Option Addr) (d : Nat) (w : World) (hp : RowA auC 16 w p a) (hq : RowA auC 16 w q b) (ha : ∀ m ∈ a, BY m) (hb : ∀ m ∈ b, BY m) (hl : a.length ≤ 1099511627776) :
    Calls Tryz.prog 56 #[.slice p a.length c, .slice q b.length d] w fun e w' => e = .returned (.bool (decide (a.map auI = b.map auI))) ∧ K0 w w' := by
  refine vc_aequal p a.length c q b.length d w _ (bsp_intro (fun h => ?_) (fun h => ?_))
  · have : ¬ a.map auI = b.map auI := fun e => by
      have := congrArg List.length e
      simp only [List.length_map] at this
      rw [this] at h; simp at h
    rw [decide_eq_false this]; exact ⟨rfl, .refl _ _⟩
  have hn : a.length = b.length := by simp at h; omega
  refine ⟨fun vs w' => ∃ i : Nat, vs = [.int .i64 (i : Int)] ∧ i ≤ a.length ∧ (a.take i).map auI = (b.take i).map auI ∧ K0 w w',
    fun vs _ => (match vs with | .int _ x :: _ => a.length - x.toNat | _ => 0), ⟨0, rfl, by omega, by simp, .refl _ _⟩, ?_⟩
  rintro x w1 ⟨i, hv, hi, ht, k1⟩
  simp only [List.cons.injEq, Value.int.injEq, true_and, and_true] at hv
  subst hv
  refine bsp_intro (fun hlt => ?_) (fun hge => ?_)
  · have hlt : i < a.length := by simp at hlt; omega
    obtain ⟨z, b1, o1, hz, hp1, hc1⟩ := (hp.k0 k1).get hlt
    obtain ⟨y, b2, o2, hy, hp2, hc2⟩ := (hq.k0 k1).get (k := i) (by omega)
    rw [Int.toNat_natCast]
    refine nn_is hp1 ⟨⟨by omega, by omega⟩, z, fun W hW => hc1.k0 (hW.kk rfl), nn_is hp2 ⟨⟨by omega, by omega⟩, y, fun W hW => hc2.k0 (hW.kk rfl), _, auEq (ha z (List.mem_of_getElem? hz)) (hb y (List.mem_of_getElem? hy)), bsp_intro (fun hne => fun W hW => ?_) (fun heq => fun W hW => ?_)⟩⟩
    · have hne : ¬ auI z = auI y := by simpa using hne
      have : ¬ a.map auI = b.map auI := fun e => by
        have := congrArg (·[i]?) e
        simp only [List.getElem?_map, hz, hy, Option.map_some, Option.some.injEq] at this
        exact hne this
      rw [decide_eq_false this]; exact ⟨rfl, k1.trans (hW.kk rfl)⟩
    · have e : auI z = auI y := by simpa using heq
      refine ⟨⟨i + 1, by rw [inc64 (by omega)], hlt, ?_, k1.trans (hW.kk rfl)⟩, by rw [inc64 (by omega)]; simp only [Int.toNat_natCast]; omega⟩
      rw [take_snoc hz, take_snoc hy, List.map_append, List.map_append, ht]
      simp [e]
  · have hi : i = a.length := by simp at hge; omega
    subst hi
    rw [List.take_length, List.take_of_length_le (by omega)] at ht
    rw [decide_eq_true ht]; exact ⟨rfl, k1⟩

/-! ### Definitions -/
theorem dupE_step {m : List (List Int)} {i : Nat} {h : List Int} (hh : m[i]? = some h) : dupE (m.take i) (m.drop i) = if h ∈ m.take i then 7 else dupE (m.take (i + 1)) (m.drop (i + 1)) := by
  have hlt := (List.getElem?_eq_some_iff.1 hh).1
  have e : m.drop i = h :: m.drop (i + 1) := by
    rw [List.drop_eq_getElem_cons hlt]
    rw [List.getElem?_eq_getElem hlt] at hh
    cases hh; rfl
  rw [e, take_snoc hh]
  rfl
set_option maxHeartbeats 1000000 in
theorem dcheck_any (x : DX) (w : World) (hR : RowA auC 16 w x.p x.d.ms) (hc : x.d.ms.length ≤ x.c) (ho : x.d.OK) (hG : GW w) :
    Calls Tryz.prog 24 #[.agg (dfC x).toArray] w fun e w' => e = .returned (.int .i64 (dchk x.d)) ∧ K0 w w' := by
  obtain ⟨d, p, c⟩ := x
  obtain ⟨id, au, g, v, rm, md, ms, tx⟩ := d
  refine vc_dcheck id au g v rm md p ms.length c tx w _ (fun n1 W hW => ?_)
  have kW : K0 w W := hW.kk rfl
  have hb0 := hW.cells 0 rfl
  simp only at hR hc
  unfold dchk
  simp only
  refine ⟨(gcheck_any g W (hG.kp kW (fun h => h))).mono fun e w1 ⟨he, k1⟩ => ⟨_, he, .of_k0 k1, bsp_intro (fun h => ?_) (fun h => ?_)⟩⟩
  · rw [if_pos (by simpa using h)]; exact ⟨rfl, kW.trans k1⟩
  rw [if_neg (by simpa using h)]
  have k01 := kW.trans k1
  have hb1 := k1.blk hb0 (fun h => h)
  refine ⟨v, gimp_intro fun _ => cell_at hb1 rfl, bsp_intro (fun h => ?_) (fun h => ?_)⟩
  · rw [if_pos (by simp only [Bool.or_eq_true, decide_eq_true_eq] at h; omega)]; exact ⟨rfl, k01⟩
  rw [if_neg (by simp only [Bool.or_eq_false_iff, decide_eq_false_iff_not] at h; omega)]
  refine ⟨md, gimp_intro fun _ => cell_at hb1 rfl, p, ms.length, c, gimp_intro fun _ => cell_at hb1 rfl, tx, gimp_intro fun _ => cell_at hb1 rfl, bsp_intro (fun h => ?_) (fun h => ?_)⟩
  · have h : rm = true ∧ (md = true ∨ 0 < ms.length ∨ tx.size ≠ 0) := by
      rw [toList_nil] at h
      simp only [Bool.and_eq_true, Bool.or_eq_true, decide_eq_true_eq, Bool.not_eq_true', decide_eq_false_iff_not] at h
      obtain ⟨h1, (h2 | h2) | h2⟩ := h
      · exact ⟨h1, .inl h2⟩
      · exact ⟨h1, .inr (.inl (by omega))⟩
      · exact ⟨h1, .inr (.inr h2)⟩
    rw [if_pos h]; exact ⟨rfl, k01⟩
  have h3 : ¬ (rm = true ∧ (md = true ∨ 0 < ms.length ∨ tx.size ≠ 0)) := by
    rw [toList_nil] at h
    rintro ⟨h1, h2⟩
    rw [h1] at h
    simp only [Bool.true_and, Bool.or_eq_false_iff, decide_eq_false_iff_not, Bool.not_eq_false', decide_eq_true_eq] at h
    rcases h2 with h2 | h2 | h2
    · rw [h2] at h; cases h.1.1
    · have := h.1.2; omega
    · exact h2 h.2
  rw [if_neg h3]
  refine bsp_intro (fun h => ?_) (fun h => ?_)
  · rw [if_pos (by simp at h; omega)]; exact ⟨rfl, k01⟩
  have h8 : ¬ 8 < ms.length := by simp at h; omega
  rw [if_neg h8]
  refine ⟨fun vs w' => ∃ i : Nat, vs = [.int .i64 (i : Int)] ∧ i ≤ ms.length ∧ dupE ((ms.map auI).take i) ((ms.map auI).drop i) = dupE [] (ms.map auI) ∧ K0 w w',
    fun vs _ => (match vs with | .int _ x :: _ => ms.length - x.toNat | _ => 0), ⟨0, rfl, by omega, rfl, k01⟩, ?_⟩
  rintro x w2 ⟨i, hv, hi, hD, k2⟩ _
  simp only [List.cons.injEq, Value.int.injEq, true_and, and_true] at hv
  subst hv
  refine bsp_intro (fun hlt => ?_) (fun hge => ?_)
  · have hlt : i < ms.length := by simp at hlt; omega
    obtain ⟨z, b, o, hz, hp, hat⟩ := (hR.k0 k2).get hlt
    rw [Int.toNat_natCast]
    have hzm := List.mem_of_getElem? hz
    have hmz : (ms.map auI)[i]? = some (auI z) := by rw [List.getElem?_map, hz]; rfl
    rw [dupE_step hmz] at hD
    refine nn_is hp ⟨⟨by omega, by omega⟩, z, hat, fun n3 => ⟨⟨by omega, by omega⟩, fun W3 hW3 => ?_⟩⟩
    have k3 : K0 w W3 := hW3.k0 k2
    have htl : (ms.take i).length = i := by rw [List.length_take]; omega
    have hcc := acont_any (ms.take i) p c z W3 ((hR.k0 k3).take i) (fun m hm => ho.ms m (List.mem_of_mem_take hm)) (ho.ms z hzm) (by omega)
    rw [htl, List.map_take] at hcc
    refine ⟨hcc.mono fun e w4 ⟨he, k4⟩ => ⟨_, he, .of_k0 k4, bsp_intro (fun h => ?_) (fun h => ?_)⟩⟩
    · rw [if_pos (of_decide_eq_true h)] at hD
      rw [if_pos (by rw [← hD]; decide)]
      exact ⟨rfl, k3.trans k4⟩
    · rw [if_neg (of_decide_eq_false h)] at hD
      exact ⟨⟨i + 1, by rw [inc64 (by omega)], hlt, hD, k3.trans k4⟩, by rw [inc64 (by omega)]; simp only [Int.toNat_natCast]; omega⟩
  · have hi : i = ms.length := by simp at hge; omega
    subst hi
    have hz : dupE [] (ms.map auI) = 0 := by
      rw [← hD]
      have : (ms.map auI).drop ms.length = [] := List.drop_of_length_le (by simp)
      rw [this]; rfl
    rw [if_neg (by rw [hz]; decide)]
    refine bsp_intro (fun h => ?_) (fun h => ?_)
    · rw [if_pos (by simp at h; omega)]; exact ⟨rfl, k2⟩
    · rw [if_neg (by simp at h; omega)]; exact ⟨rfl, k2⟩
theorem dclone_any (x : DX) (w : World) (hR : RowA auC 16 w x.p x.d.ms) (hl : x.d.ms.length * 16 ≤ 140737488355328) :
    Calls Tryz.prog 53 #[.agg (dfC x).toArray] w fun e w' => (∃ (p' : Option Addr) (c' : Nat), e = .returned (.agg (dfC ⟨x.d, p', c'⟩).toArray) ∧ w'.ownsRow w.heap.size 53 16 (.slice p' x.d.ms.length c') x.d.ms.length (x.d.ms.flatMap auC)) ∧ K0 w w' := by
  obtain ⟨d, p, c⟩ := x
  obtain ⟨id, au, g, v, rm, md, ms, tx⟩ := d
  simp only at hR hl
  refine vc_dclone id au g v rm md p ms.length c tx w _ (fun n1 n2 W hW => ?_)
  have kW : K0 w W := hW.kk rfl
  refine ⟨(aclone_any ms p c W (hR.k0 kW) hl).mono fun e w1 ⟨⟨p', c', he, ho⟩, k1⟩ => ⟨_, _, _, he, .of_k0 k1, fun W2 hW2 => ?_⟩⟩
  refine ⟨⟨p', c', rfl, own_base (owns_kp ho hW2.kp (fun k hk ⟨x, hx, hm, e⟩ => ?_)) kW.size⟩, hW2.k0 (kW.trans k1)⟩
  have h1 := own_ge ho hk
  have b1 := block_lt (hW.cells 0 rfl)
  have b2 := block_lt (hW.cells 1 rfl)
  simp only at b1 b2
  simp only [List.mem_cons, List.not_mem_nil, or_false] at hx
  rcases hx with rfl | rfl
  · have e : n2 = k := e
    omega
  · have e : n1 = k := e
    omega
set_option maxHeartbeats 1000000 in
theorem dequal_any (x y : DX) (w : World) (hx : RowA auC 16 w x.p x.d.ms) (hy : RowA auC 16 w y.p y.d.ms) (ox : x.d.OK) (oy : y.d.OK) (hl : x.d.ms.length ≤ 1099511627776) :
    Calls Tryz.prog 27 #[.agg (dfC x).toArray, .agg (dfC y).toArray] w fun e w' => e = .returned (.bool (dEq x.d y.d)) ∧ K0 w w' := by
  obtain ⟨⟨id, au, g, v, rm, md, ms, tx⟩, p, c⟩ := x
  obtain ⟨⟨id2, au2, g2, v2, rm2, md2, ms2, tx2⟩, p2, c2⟩ := y
  simp only at hx hy hl
  refine vc_dequal id au g v rm md p ms.length c tx id2 au2 g2 v2 rm2 md2 p2 ms2.length c2 tx2 w _ (fun n1 n2 => ?_)
  refine ⟨_, idEqF ox.id oy.id, au, gimp_intro fun _ W hW => AtL_block (hW.cells 1 rfl) rfl, au2, gimp_intro fun _ W hW => AtL_block (hW.cells 0 rfl) rfl, _, gimp_intro fun _ => auEq ox.au oy.au, ?_⟩
  refine ⟨g, gimp_intro fun _ W hW => cell_at (hW.cells 1 rfl) rfl, g2, gimp_intro fun _ W hW => cell_at (hW.cells 0 rfl) rfl, v, gimp_intro fun _ W hW => cell_at (hW.cells 1 rfl) rfl, v2, gimp_intro fun _ W hW => cell_at (hW.cells 0 rfl) rfl, ?_⟩
  refine ⟨rm, gimp_intro fun _ W hW => cell_at (hW.cells 1 rfl) rfl, rm2, gimp_intro fun _ W hW => cell_at (hW.cells 0 rfl) rfl, md, gimp_intro fun _ W hW => cell_at (hW.cells 1 rfl) rfl, md2, gimp_intro fun _ W hW => cell_at (hW.cells 0 rfl) rfl, ?_⟩
  refine ⟨p, ms.length, c, gimp_intro fun _ W hW => cell_at (hW.cells 1 rfl) rfl, p2, ms2.length, c2, gimp_intro fun _ W hW => cell_at (hW.cells 0 rfl) rfl, fun W hW => ?_⟩
  have kW : K0 w W := hW.kk rfl
  have b1 := hW.cells 1 rfl
  have b0 := hW.cells 0 rfl
  rw [str_beq]
  refine bsp_intro (fun h => ?_) (fun h => ?_)
  · refine ⟨(aequal_any ms ms2 p c p2 c2 W (hx.k0 kW) (hy.k0 kW) ox.ms oy.ms hl).mono fun e w1 ⟨he, k1⟩ => ⟨_, he, .of_k0 k1, tx, gimp_intro fun _ => cell_at (k1.blk b1 (fun h => h)) rfl, tx2, gimp_intro fun _ => cell_at (k1.blk b0 (fun h => h)) rfl, ?_, kW.trans k1⟩⟩
    rw [str_beq]
    congr 2
    unfold dEq
    simp only
    simp only [Bool.and_eq_true, decide_eq_true_eq, beq_iff_eq] at h
    obtain ⟨⟨⟨⟨⟨h1, h2⟩, h3⟩, h4⟩, h5⟩, h6⟩ := h
    rw [decide_eq_true h1, decide_eq_true h2, decide_eq_true h3, h4, h5, h6]
    simp
  · refine ⟨.refl _ _, tx, trivial, tx2, trivial, ?_, kW⟩
    congr 2
    unfold dEq
    simp only
    rw [Bool.false_and]
    symm
    rw [Bool.eq_false_iff]
    intro hc
    simp only [Bool.and_eq_true] at hc
    obtain ⟨h1, h2, h3, h4, h5, h6, _⟩ := hc
    rw [h1, h2, h3, h4, h5, h6] at h
    simp at h

end Go.Proofs.YtkkfnlehlkiejaaGreatDoor

/- Chapter 21: texts, authors, authorities, definitions as arguments, with their sizes. No condition. -/
namespace Go.Proofs.YtkkfnlehlkiejaaGreatDoor
open Go.ChangeShapes Go.WideShapes Go.ChangeAt Go.RowKit Go.Deep

theorem list_of {α : Type} [Inhabited α] {n : Nat} {Q : Nat → α → Prop} (h : ∀ i, i < n → ∃ y, Q i y) : ∃ l : List α, l.length = n ∧ ∀ i y, l[i]? = some y → Q i y := by
  have hex : ∃ g : Nat → α, ∀ i, i < n → Q i (g i) := by
    refine ⟨fun i => if h' : i < n then Classical.choose (h i h') else default, fun i hi => ?_⟩
    simp only [hi, dif_pos]
    exact Classical.choose_spec (h i hi)
  obtain ⟨g, hg⟩ := hex
  refine ⟨(List.range n).map g, by simp, fun i y hy => ?_⟩
  rw [List.getElem?_map] at hy
  rcases Nat.lt_or_ge i n with h' | h'
  · simp [h'] at hy
    subst hy
    exact hg i h'
  · simp [h'] at hy
instance : Inhabited Au := ⟨⟨⟨#[]⟩, fun _ => 0⟩⟩
section
variable {H : Type} {enc : TypeId × Value → H} {W : World} {base : Nat} {v : Value}
set_option maxRecDepth 100000 in
theorem openw_str (hv : Value.okWide Tryz.prog W .any base 9 v) (hr : Rw enc Tryz.prog W 9 v.cells.toList) : ∃ s : ByteArray, v = .string s ∧ s.size ≤ 4611686018427387904 := by
  obtain ⟨s, rfl⟩ := okWide_string Tryz.underlying9 hv
  obtain ⟨s', h, hz⟩ := hr.str Tryz.underlying9
  have h : [Value.string s] = [.string s'] := h
  simp only [List.cons.injEq, Value.string.injEq, and_true] at h
  subst h
  exact ⟨s, rfl, by omega⟩
theorem cellsA21 : Tryz.prog.cellsOf 92 = 17 := by kernel_rfl
theorem cellsD21 : Tryz.prog.cellsOf 50 = 54 := by kernel_rfl
set_option maxRecDepth 100000 in
/-- Authorities that were read. -/
theorem open_As {cs : List Value} (hr : Rw enc Tryz.prog W 22 cs) : ∃ (p : Option Addr) (l : List Au) (c : Nat), cs = [.slice p l.length c] ∧ RowA atC 17 W p l ∧ ∀ x ∈ l, BY x.au := by
  obtain ⟨p, n, c, hcs, hnc, hby, _, hel⟩ := hr.slice Tryz.underlying22 (by rw [cellsA21]; decide)
  rw [cellsA21] at hel
  have key : ∀ i, i < n → ∃ y : Au, (∃ b o, p = some ⟨b, o, none⟩ ∧ AtL W b (o + i * 17) (atC y)) ∧ BY y.au := fun i hi => by
    obtain ⟨b, o, cs', hp, hl, hc, hrw⟩ := hel i hi
    obtain ⟨s, e0, _⟩ := Rw.str (cs := (cs'.drop 0).take 1) (hrw.field Tryz.underlying92 (i := 0) rfl) Tryz.underlying9
    obtain ⟨f, e1, hf⟩ := Rw.bytes (cs := (cs'.drop 1).take 16) (hrw.field Tryz.underlying92 (i := 1) rfl) Tryz.underlying23 Tryz.underlying5 (by kernel_rfl) (by kernel_rfl)
    have h2 : cs' = atC ⟨s, f⟩ := by
      rw [← List.take_append_drop 1 cs']
      have e0 : cs'.take 1 = [.string s] := e0
      rw [e0]
      have : (cs'.drop 1).take 16 = cs'.drop 1 := List.take_of_length_le (by rw [List.length_drop, hl]; omega)
      rw [this] at e1
      rw [e1]; rfl
    rw [h2] at hc
    exact ⟨⟨s, f⟩, ⟨b, o, hp, ⟨At_of _ _ fun j v hv => hc j v hv⟩⟩, hf⟩
  obtain ⟨l, hlen, hL⟩ := list_of key
  exact ⟨p, l, c, by rw [hlen]; exact hcs, fun k y hy => (hL k y hy).1, fun h hh => by
    obtain ⟨j, hj, e⟩ := List.getElem_of_mem hh
    exact (hL j h (by rw [List.getElem?_eq_getElem hj, e])).2⟩
set_option maxRecDepth 100000 in
/-- Moderators that were read. -/
theorem open_Ms {cs : List Value} (hr : Rw enc Tryz.prog W 48 cs) : ∃ (p : Option Addr) (l : List (Nat → Int)) (c : Nat), cs = [.slice p l.length c] ∧ RowA auC 16 W p l ∧ (∀ m ∈ l, BY m) ∧ l.length ≤ c ∧ l.length ≤ 4611686018427387904 := by
  have c16 : Tryz.prog.cellsOf 23 = 16 := by kernel_rfl
  obtain ⟨p, n, c, hcs, hnc, hby, _, hel⟩ := hr.slice Tryz.underlying48 (by rw [c16]; decide)
  rw [c16] at hel
  rw [show Tryz.prog.bytesOf 23 = 16 by kernel_rfl] at hby
  have key : ∀ i, i < n → ∃ y : Nat → Int, (∃ b o, p = some ⟨b, o, none⟩ ∧ AtL W b (o + i * 16) (auC y)) ∧ BY y := fun i hi => by
    obtain ⟨b, o, cs', hp, hl, hc, hrw⟩ := hel i hi
    obtain ⟨f, e0, hf⟩ := Rw.bytes hrw Tryz.underlying23 Tryz.underlying5 (by kernel_rfl) (by kernel_rfl)
    subst e0
    exact ⟨f, ⟨b, o, hp, ⟨At_of _ _ fun j v hv => hc j v hv⟩⟩, hf⟩
  obtain ⟨l, hlen, hL⟩ := list_of key
  exact ⟨p, l, c, by rw [hlen]; exact hcs, fun k y hy => (hL k y hy).1, fun h hh => by
    obtain ⟨j, hj, e⟩ := List.getElem_of_mem hh
    exact (hL j h (by rw [List.getElem?_eq_getElem hj, e])).2, by omega, by omega⟩
theorem six' {l : List Value} {a b c d e f : Value} (hl : l.length = 6) (h0 : (l.drop 0).take 1 = [a]) (h1 : (l.drop 1).take 1 = [b]) (h2 : (l.drop 2).take 1 = [c]) (h3 : (l.drop 3).take 1 = [d]) (h4 : (l.drop 4).take 1 = [e]) (h5 : (l.drop 5).take 1 = [f]) : l = [a, b, c, d, e, f] := by
  match l, hl with
  | [x0, x1, x2, x3, x4, x5], _ => simp at h0 h1 h2 h3 h4 h5; simp [h0, h1, h2, h3, h4, h5]
/-- What is known of a definition that was read. -/
structure DfR (W : World) (x : DX) : Prop where
  row : RowA auC 16 W x.p x.d.ms
  ok : x.d.OK
  cap : x.d.ms.length ≤ x.c
  len : x.d.ms.length ≤ 4611686018427387904
theorem DfR.k0 {W W' : World} {x : DX} (h : DfR W x) (hk : K0 W W') : DfR W' x := ⟨h.row.k0 hk, h.ok, h.cap, h.len⟩
set_option maxRecDepth 100000 in
/-- The cells of a definition that was read. -/
theorem rw_D {l : List Value} (hl : l.length = 54) (hr : Rw enc Tryz.prog W 50 l) : ∃ x : DX, l = dfC x ∧ DfR W x := by
  obtain ⟨f, e0, hf⟩ := Rw.bytes (cs := (l.drop 0).take 32) (hr.field Tryz.underlying50 (i := 0) rfl) Tryz.underlying47 Tryz.underlying5 (by kernel_rfl) (by kernel_rfl)
  obtain ⟨g, e1, hg⟩ := Rw.bytes (cs := (l.drop 32).take 16) (hr.field Tryz.underlying50 (i := 1) rfl) Tryz.underlying23 Tryz.underlying5 (by kernel_rfl) (by kernel_rfl)
  obtain ⟨s2, e2, _⟩ := Rw.str (cs := (l.drop 48).take 1) (hr.field Tryz.underlying50 (i := 2) rfl) Tryz.underlying9
  obtain ⟨n3, e3, _⟩ := Rw.int64 (cs := (l.drop 49).take 1) (hr.field Tryz.underlying50 (i := 3) rfl) Tryz.underlying3
  obtain ⟨b4, e4⟩ := Rw.bool (cs := (l.drop 50).take 1) (hr.field Tryz.underlying50 (i := 4) rfl) Tryz.underlying4
  obtain ⟨b5, e5⟩ := Rw.bool (cs := (l.drop 51).take 1) (hr.field Tryz.underlying50 (i := 5) rfl) Tryz.underlying4
  obtain ⟨p6, m6, c6, e6, h6, o6, z6, z6'⟩ := open_Ms (cs := (l.drop 52).take 1) (hr.field Tryz.underlying50 (i := 6) rfl)
  obtain ⟨s7, e7, _⟩ := Rw.str (cs := (l.drop 53).take 1) (hr.field Tryz.underlying50 (i := 7) rfl) Tryz.underlying9
  have hd : ∀ k, l.drop (48 + k) = (l.drop 48).drop k := fun k => by rw [List.drop_drop]
  have e8 := six' (l := l.drop 48) (by simp [hl]) e2 (by rw [← hd]; exact e3) (by rw [← hd]; exact e4) (by rw [← hd]; exact e5) (by rw [← hd]; exact e6) (by rw [← hd]; exact e7)
  have hl2 : l = dfC ⟨⟨f, g, s2, n3, b4, b5, m6, s7⟩, p6, c6⟩ := by
    rw [← List.take_append_drop 32 l]
    have e0 : l.take 32 = arrI .u8 f 32 0 := e0
    rw [e0, ← List.take_append_drop 16 (l.drop 32), e1, List.drop_drop, e8]
    rfl
  exact ⟨⟨⟨f, g, s2, n3, b4, b5, m6, s7⟩, p6, c6⟩, hl2, ⟨h6, ⟨hf, hg, o6⟩, z6, z6'⟩⟩
set_option maxRecDepth 100000 in
theorem openw_D (hv : Value.okWide Tryz.prog W .any base 50 v) (hr : Rw enc Tryz.prog W 50 v.cells.toList) : ∃ x : DX, v = .agg (dfC x).toArray ∧ DfR W x := by
  obtain ⟨cs, rfl, hsz⟩ := okWide_struct Tryz.underlying50 hv
  rw [cellsD21] at hsz
  obtain ⟨l⟩ := cs
  obtain ⟨x, h1, h2⟩ := rw_D (l := l) hsz hr
  exact ⟨x, congrArg (fun l : List Value => Value.agg l.toArray) h1, h2⟩
end

end Go.Proofs.YtkkfnlehlkiejaaGreatDoor

/-
  DERIVED: THE SHELF's CONTRACTS AT THIS DUMP, IN PLAIN WORDS (tools/lay-plain.mjs out of 'TryzShelf.lean', which tools/lay-shelf.mjs wrote): THE SAME DECLARATIONS UNDER THE SAME NAMES: 'import', 'namespace', 'open', 'def', 'theorem' AND NOTHING ELSE: no command of the shelf's: FOR A HAND-IN. Each laying: the table of numbers ('.._ren') and one theorem, a field a fact of the dump's own or the kernel's comparison; each contract: ONE APPLICATION.
-/
namespace Go.Proofs
open Go.Shelf
def Tryz.laysSlF06_f71_ren : Go.Shelf.Ren := ⟨fun | 6 => 71 | 15 => 94 | 14 => 93 | 28 => 116 | 29 => 117 | 20 => 108 | 21 => 109 | 22 => 110 | 23 => 111 | 24 => 112 | 25 => 113 | 26 => 114 | 27 => 115 | 46 => 128 | 47 => 129 | 48 => 130 | 49 => 131 | 50 => 132 | 57 => 138 | n => n, fun | 22 => 68 | 24 => 56 | 25 => 139 | 3 => 3 | 39 => 172 | 0 => 0 | 53 => 193 | 55 => 195 | 4 => 4 | 46 => 186 | 45 => 185 | 50 => 190 | 5 => 5 | 9 => 9 | 66 => 201 | 70 => 205 | 76 => 208 | 77 => 209 | n => n, fun | n => n⟩
theorem Tryz.laysSlF06_f71 : Go.Proofs.SlLaysF0.n6 Tryz.prog Tryz.laysSlF06_f71_ren := {
  mixed := by kernel_rfl
  f6 := ⟨Tryz.f71.name, by decide, Tryz.func71.trans (congrArg some (by kernel_rfl))⟩
  f14 := ⟨Tryz.f93.name, by decide, Tryz.func93.trans (congrArg some (by kernel_rfl))⟩
  f15 := Tryz.func94.trans (congrArg some (by kernel_rfl))
  f20 := ⟨Tryz.f108.name, by decide, Tryz.func108.trans (congrArg some (by kernel_rfl))⟩
  f21 := ⟨Tryz.f109.name, by decide, Tryz.func109.trans (congrArg some (by kernel_rfl))⟩
  f22 := ⟨Tryz.f110.name, by decide, Tryz.func110.trans (congrArg some (by kernel_rfl))⟩
  f23 := ⟨Tryz.f111.name, by decide, Tryz.func111.trans (congrArg some (by kernel_rfl))⟩
  f24 := ⟨Tryz.f112.name, by decide, Tryz.func112.trans (congrArg some (by kernel_rfl))⟩
  f25 := ⟨Tryz.f113.name, by decide, Tryz.func113.trans (congrArg some (by kernel_rfl))⟩
  f26 := ⟨Tryz.f114.name, by decide, Tryz.func114.trans (congrArg some (by kernel_rfl))⟩
  f27 := ⟨Tryz.f115.name, by decide, Tryz.func115.trans (congrArg some (by kernel_rfl))⟩
  f28 := Tryz.func116.trans (congrArg some (by kernel_rfl))
  f29 := Tryz.func117.trans (congrArg some (by kernel_rfl))
  f46 := ⟨Tryz.f128.name, by decide, Tryz.func128.trans (congrArg some (by kernel_rfl))⟩
  f47 := Tryz.func129.trans (congrArg some (by kernel_rfl))
  f48 := Tryz.func130.trans (congrArg some (by kernel_rfl))
  f49 := ⟨Tryz.f131.name, by decide, Tryz.func131.trans (congrArg some (by kernel_rfl))⟩
  f50 := ⟨Tryz.f132.name, by decide, Tryz.func132.trans (congrArg some (by kernel_rfl))⟩
  f57 := ⟨Tryz.f138.name, by decide, Tryz.func138.trans (congrArg some (by kernel_rfl))⟩
  t0 := Tryz.underlying0
  a0 := Tryz.isAgg0
  z0 := Tryz.sizeOf0
  v0 := Tryz.zeroValue0
  t3 := Tryz.underlying3
  a3 := Tryz.isAgg3
  z3 := Tryz.sizeOf3
  v3 := Tryz.zeroValue3
  t4 := Tryz.underlying4
  a4 := Tryz.isAgg4
  z4 := Tryz.sizeOf4
  v4 := Tryz.zeroValue4
  t5 := Tryz.underlying5
  a5 := Tryz.isAgg5
  z5 := Tryz.sizeOf5
  v5 := Tryz.zeroValue5
  t9 := Tryz.underlying9
  a9 := Tryz.isAgg9
  z9 := Tryz.sizeOf9
  v9 := Tryz.zeroValue9
  t22 := Tryz.underlying68
  a22 := Tryz.isAgg68
  z22 := Tryz.sizeOf68
  v22 := Tryz.zeroValue68
  t25 := Tryz.underlying139
  a25 := Tryz.isAgg139
  z25 := Tryz.sizeOf139
  v25 := Tryz.zeroValue139
  t39 := Tryz.underlying172
  a39 := Tryz.isAgg172
  z39 := Tryz.sizeOf172
  v39 := Tryz.zeroValue172
  t45 := Tryz.underlying185
  a45 := Tryz.isAgg185
  z45 := Tryz.sizeOf185
  v45 := Tryz.zeroValue185
  t46 := Tryz.underlying186
  a46 := Tryz.isAgg186
  z46 := Tryz.sizeOf186
  v46 := Tryz.zeroValue186
  t50 := Tryz.underlying190
  a50 := Tryz.isAgg190
  z50 := Tryz.sizeOf190
  v50 := Tryz.zeroValue190
  t53 := Tryz.underlying193
  a53 := Tryz.isAgg193
  z53 := Tryz.sizeOf193
  v53 := Tryz.zeroValue193
  t55 := Tryz.underlying195
  a55 := Tryz.isAgg195
  z55 := Tryz.sizeOf195
  v55 := Tryz.zeroValue195
  t66 := Tryz.underlying201
  a66 := Tryz.isAgg201
  z66 := Tryz.sizeOf201
  v66 := Tryz.zeroValue201
  t70 := Tryz.underlying205
  a70 := Tryz.isAgg205
  z70 := Tryz.sizeOf205
  v70 := Tryz.zeroValue205
  t76 := Tryz.underlying208
  a76 := Tryz.isAgg208
  z76 := Tryz.sizeOf208
  v76 := Tryz.zeroValue208
  t77 := Tryz.underlying209
  a77 := Tryz.isAgg209
  z77 := Tryz.sizeOf209
  v77 := Tryz.zeroValue209 }
open Go.RowKit Go.Lib in
/-- slices.SortFunc at no element. -/
theorem Tryz.slices_SortFunc_none71 (p : Option Addr) (cap : Nat) (fv : Value) (w : World) :
    Calls Tryz.prog 71 #[.slice p 0 cap, fv] w fun e w' => e = .returned (.tuple #[]) ∧ w' = w := AnyF.slices_SortFunc_none Tryz.laysSlF06_f71 p cap fv w
end Go.Proofs

/- The formulas of functions by the symbolic evaluator, and that each gives the call's contract. Written by a program (gen.py). No condition. -/
namespace Go.Proofs.YtkkfnlehlkiejaaGreatDoor
set_option maxRecDepth 100000
set_option linter.unusedVariables false

def VC_mcompare (a : Array Value) (b : Array Value) (w : World) (R : Ending → World → Prop) : Prop :=
 ∀ (n : Nat) (w1 : World),
 NewB w (Obj.cells a 52) n w1 →
 ∀ (n_1 : Nat) (w1_1 : World),
 NewB w1 (Obj.cells b 52) n_1 w1_1 →
 CallsS Tryz.prog 119 #[Value.slice (some (Addr.mk n 0 none)) 32 32, Value.slice (some (Addr.mk n_1 0 none)) 32 32]
 w1_1.drew fun (e : Ending) (w' : World) =>
 ∃ (x : Int), e = Ending.returned (Value.int IntKind.i64 x) ∧ R (Ending.returned (Value.int IntKind.i64 x)) w'
theorem vc_mcompare (a : Array Value) (b : Array Value) (w : World) (R : Ending → World → Prop) (h : VC_mcompare a b w R) : Calls Tryz.prog 97 ([Value.agg
    a,
  Value.agg b] : List Value).toArray w R := by
  have e : execR { P := Tryz.prog, loops := [], pur := pur1, tails := [(1, 2)], joins := [], boxes := [] } Tryz.f97.results.toList R (Tryz.f97.body.getD .skip) (initF [Value.agg
    a,
  Value.agg
    b] (Tryz.f97.ntmps - ([Value.agg a, Value.agg b] : List Value).length)) w = VC_mcompare a b w R := by kernel_rfl
  have hb : Tryz.f97.body = some (Tryz.f97.body.getD .skip) := by kernel_rfl
  exact calls_of_exec' (P := Tryz.prog) (fn := Tryz.f97) (c := Tryz.f97.body.getD .skip) (args := [Value.agg a,
  Value.agg b]) (w := w) (R := R) pur1_ok Tryz.func97 hb e h

def VC_cmpOr (p : Option Addr) (n : Nat) (c : Nat) (w : World) (R : Ending → World → Prop) : Prop :=
 ∃ (I : List Value → World → Prop),
 ∃ (m : List Value → World → Nat),
 I [Value.int IntKind.i64 0] w ∧
 ∀ (x : Int) (w' : World),
 I [Value.int IntKind.i64 x] w' →
 bsp (decide (x < (↑n : Int)))
 (nn true p fun (b o : Nat) =>
 (0 ≤ x ∧ x < (↑n : Int)) ∧
 ∃ (x_1 : Int),
 w'.cell? (Addr.mk b (o + x.toNat) none) = some (Value.int IntKind.i64 x_1) ∧
 bsp (x_1 != 0) (R (Ending.returned (Value.int IntKind.i64 x_1)) w')
 (I [Value.int IntKind.i64 (IntKind.i64.wrap (x + 1))] w' ∧
 m [Value.int IntKind.i64 (IntKind.i64.wrap (x + 1))] w' < m [Value.int IntKind.i64 x] w'))
 (R (Ending.returned (Value.int IntKind.i64 0)) w')
theorem vc_cmpOr (p : Option Addr) (n : Nat) (c : Nat) (w : World) (R : Ending → World → Prop) (h : VC_cmpOr p n c w R) : Calls Tryz.prog 73 ([Value.slice
    p n c] : List Value).toArray w R := by
  have e : execR { P := Tryz.prog, loops := [(3, [(8, Ck.int IntKind.i64)])], pur := pur1, tails := [], joins := [], boxes := [] } Tryz.f73.results.toList R (Tryz.f73.body.getD .skip) (initF [Value.slice
    p n c] (Tryz.f73.ntmps - ([Value.slice p n c] : List Value).length)) w = VC_cmpOr p n c w R := by kernel_rfl
  have hb : Tryz.f73.body = some (Tryz.f73.body.getD .skip) := by kernel_rfl
  exact calls_of_exec' (P := Tryz.prog) (fn := Tryz.f73) (c := Tryz.f73.body.getD .skip) (args := [Value.slice p n
    c]) (w := w) (R := R) pur1_ok Tryz.func73 hb e h

def VC_dprec (a : Array Value) (b : Array Value) (w : World) (R : Ending → World → Prop) : Prop :=
 ∀ (n : Nat) (w1 : World),
 NewB w (Obj.cells a 56) n w1 →
 ∀ (n_1 : Nat) (w1_1 : World),
 NewB w1 (Obj.cells b 56) n_1 w1_1 →
 ∃ (S : World → Prop),
 S w1_1.drew ∧
 ∃ (x : Int),
 (∀ (w' : World), S w' → w'.cell? (Addr.mk n_1 (0 + 49) none) = some (Value.int IntKind.i64 x)) ∧
 ∃ (x_1 : Int),
 (∀ (w' : World), S w' → w'.cell? (Addr.mk n (0 + 49) none) = some (Value.int IntKind.i64 x_1)) ∧
 ∃ (f : Nat → Int),
 (∀ (w' : World),
 S w' →
 AtL w' n 0
 (arrI IntKind.u8 f 32 0)) ∧
 ∃ (f_1 : Nat → Int),
 (∀ (w' : World),
 S w' →
 AtL w' n_1 0
 (arrI IntKind.u8 f_1 32 0)) ∧
 CallsS Tryz.prog 96 #[Value.int IntKind.i64 x, Value.int IntKind.i64 x_1] w1_1.drew
 fun (e : Ending) (w' : World) =>
 ∃ (x : Int),
 e = Ending.returned (Value.int IntKind.i64 x) ∧
 S w' ∧
 CallsS Tryz.prog 97
 #[Value.agg
 (arrI IntKind.u8 f 32 0).toArray,
 Value.agg
 (arrI IntKind.u8 f_1 32 0).toArray]
 w' fun (e : Ending) (w' : World) =>
 ∃ (x_2 : Int),
 e = Ending.returned (Value.int IntKind.i64 x_2) ∧
 ∀ (n : Nat) (w1 : World),
 NewB w' (Obj.cells #[Value.int IntKind.i64 x, Value.int IntKind.i64 x_2] 3) n w1 →
 CallsS Tryz.prog 73 #[Value.slice (some (Addr.mk n 0 none)) 2 2] w1
 fun (e : Ending) (w' : World) =>
 ∃ (x : Int),
 e = Ending.returned (Value.int IntKind.i64 x) ∧
 R (Ending.returned (Value.int IntKind.i64 x)) w'
theorem vc_dprec (a : Array Value) (b : Array Value) (w : World) (R : Ending → World → Prop) (h : VC_dprec a b w R) : Calls Tryz.prog 75 ([Value.agg
    a,
  Value.agg b] : List Value).toArray w R := by
  have e : execR { P := Tryz.prog, loops := [], pur := pur1, tails := [(1, 4)], joins := [], boxes := [] } Tryz.f75.results.toList R (Tryz.f75.body.getD .skip) (initF [Value.agg
    a,
  Value.agg
    b] (Tryz.f75.ntmps - ([Value.agg a, Value.agg b] : List Value).length)) w = VC_dprec a b w R := by kernel_rfl
  have hb : Tryz.f75.body = some (Tryz.f75.body.getD .skip) := by kernel_rfl
  exact calls_of_exec' (P := Tryz.prog) (fn := Tryz.f75) (c := Tryz.f75.body.getD .skip) (args := [Value.agg a,
  Value.agg b]) (w := w) (R := R) pur1_ok Tryz.func75 hb e h

def VC_pcmp (a : Array Value) (b : Array Value) (w : World) (R : Ending → World → Prop) : Prop :=
 ∀ (n : Nat) (w1 : World),
 NewB w (Obj.cells a 56) n w1 →
 ∀ (n_1 : Nat) (w1_1 : World),
 NewB w1 (Obj.cells b 56) n_1 w1_1 →
 ∃ (S : World → Prop),
 S w1_1.drew ∧
 ∃ (x : ByteArray),
 (∀ (w' : World), S w' → w'.cell? (Addr.mk n (0 + 48) none) = some (Value.string x)) ∧
 ∃ (x_1 : ByteArray),
 (∀ (w' : World), S w' → w'.cell? (Addr.mk n_1 (0 + 48) none) = some (Value.string x_1)) ∧
 ∃ (f : Nat → Int),
 ∃ (f_1 : Nat → Int),
 ∃ (x_2 : ByteArray),
 ∃ (x_3 : Int),
 ∃ (x_4 : Bool),
 ∃ (x_5 : Bool),
 ∃ (p : Option Addr),
 ∃ (n_2 : Nat),
 ∃ (c : Nat),
 ∃ (x_6 : ByteArray),
 (∀ (w' : World),
 S w' →
 AtL w' n 0
 (arrI IntKind.u8 f 32 0 ++ (arrI IntKind.u8 f_1 16 0 ++ [Value.string x_2, Value.int IntKind.i64 x_3, Value.bool x_4, Value.bool x_5,
 Value.slice p n_2 c, Value.string x_6]))) ∧
 ∃ (f_2 : Nat → Int),
 ∃ (f_3 : Nat → Int),
 ∃ (x_7 : ByteArray),
 ∃ (x_8 : Int),
 ∃ (x_9 : Bool),
 ∃ (x_10 : Bool),
 ∃ (p_1 : Option Addr),
 ∃ (n : Nat),
 ∃ (c_1 : Nat),
 ∃ (x_11 : ByteArray),
 (∀ (w' : World),
 S w' →
 AtL w' n_1 0
 (arrI IntKind.u8 f_2 32 0 ++ (arrI IntKind.u8 f_3 16 0 ++ [Value.string x_7,
 Value.int IntKind.i64 x_8, Value.bool x_9, Value.bool x_10, Value.slice p_1 n c_1,
 Value.string x_11]))) ∧
 CallsS Tryz.prog 74 #[Value.string x, Value.string x_1] w1_1.drew
 fun (e : Ending) (w' : World) =>
 ∃ (x : Int),
 e = Ending.returned (Value.int IntKind.i64 x) ∧
 S w' ∧
 CallsS Tryz.prog 75
 #[Value.agg
 (arrI IntKind.u8 f 32 0 ++ (arrI IntKind.u8 f_1 16 0 ++ [Value.string x_2,
 Value.int IntKind.i64 x_3, Value.bool x_4, Value.bool x_5, Value.slice p n_2 c,
 Value.string x_6])).toArray,
 Value.agg
 (arrI IntKind.u8 f_2 32 0 ++ (arrI IntKind.u8 f_3 16 0 ++ [Value.string x_7,
 Value.int IntKind.i64 x_8, Value.bool x_9, Value.bool x_10,
 Value.slice p_1 n c_1, Value.string x_11])).toArray]
 w' fun (e : Ending) (w' : World) =>
 ∃ (x_12 : Int),
 e = Ending.returned (Value.int IntKind.i64 x_12) ∧
 ∀ (n : Nat) (w1 : World),
 NewB w' (Obj.cells #[Value.int IntKind.i64 x, Value.int IntKind.i64 x_12] 3) n
 w1 →
 CallsS Tryz.prog 73 #[Value.slice (some (Addr.mk n 0 none)) 2 2] w1
 fun (e : Ending) (w' : World) =>
 ∃ (x : Int),
 e = Ending.returned (Value.int IntKind.i64 x) ∧
 R (Ending.returned (Value.int IntKind.i64 x)) w'
theorem vc_pcmp (a : Array Value) (b : Array Value) (w : World) (R : Ending → World → Prop) (h : VC_pcmp a b w R) : Calls Tryz.prog 72 ([Value.agg
    a,
  Value.agg b] : List Value).toArray w R := by
  have e : execR { P := Tryz.prog, loops := [], pur := pur1, tails := [(1, 4)], joins := [], boxes := [] } Tryz.f72.results.toList R (Tryz.f72.body.getD .skip) (initF [Value.agg
    a,
  Value.agg b] (Tryz.f72.ntmps - ([Value.agg a, Value.agg b] : List Value).length)) w = VC_pcmp a b w R := by kernel_rfl
  have hb : Tryz.f72.body = some (Tryz.f72.body.getD .skip) := by kernel_rfl
  exact calls_of_exec' (P := Tryz.prog) (fn := Tryz.f72) (c := Tryz.f72.body.getD .skip) (args := [Value.agg a,
  Value.agg b]) (w := w) (R := R) pur1_ok Tryz.func72 hb e h

end Go.Proofs.YtkkfnlehlkiejaaGreatDoor

/- The formulas of functions by the symbolic evaluator, and that each gives the call's contract. Written by a program (gen.py). No condition. -/
namespace Go.Proofs.YtkkfnlehlkiejaaGreatDoor
set_option maxRecDepth 100000
set_option linter.unusedVariables false

def VC_nanS (a : ByteArray) (w : World) (R : Ending → World → Prop) : Prop :=
 R (Ending.returned (Value.bool !a.toList == a.toList)) w
theorem vc_nanS (a : ByteArray) (w : World) (R : Ending → World → Prop) (h : VC_nanS a w R) : Calls Tryz.prog 95 ([Value.string
    a] : List Value).toArray w R := by
  have e : execR { P := Tryz.prog, loops := [], pur := pur1, tails := [], joins := [], boxes := [] } Tryz.f95.results.toList R (Tryz.f95.body.getD .skip) (initF [Value.string
    a] (Tryz.f95.ntmps - ([Value.string a] : List Value).length)) w = VC_nanS a w R := by kernel_rfl
  have hb : Tryz.f95.body = some (Tryz.f95.body.getD .skip) := by kernel_rfl
  exact calls_of_exec' (P := Tryz.prog) (fn := Tryz.f95) (c := Tryz.f95.body.getD .skip) (args := [Value.string
    a]) (w := w) (R := R) pur1_ok Tryz.func95 hb e h

def VC_cmpS (a : ByteArray) (b : ByteArray) (w : World) (R : Ending → World → Prop) : Prop :=
 CallsS Tryz.prog 95 #[Value.string a] w fun (e : Ending) (w' : World) =>
 ∃ (x : Bool),
 e = Ending.returned (Value.bool x) ∧
 CallsS Tryz.prog 95 #[Value.string b] w' fun (e : Ending) (w' : World) =>
 ∃ (x_1 : Bool),
 e = Ending.returned (Value.bool x_1) ∧
 bsp x
 (bsp x_1 (R (Ending.returned (Value.int IntKind.i64 0)) w')
 (R (Ending.returned (Value.int IntKind.i64 (-1))) w'))
 (bsp x_1 (R (Ending.returned (Value.int IntKind.i64 1)) w')
 (bsp (Op.bytesLess a.toList b.toList) (R (Ending.returned (Value.int IntKind.i64 (-1))) w')
 (bsp (!(Op.bytesLess a.toList b.toList || a.toList == b.toList))
 (R (Ending.returned (Value.int IntKind.i64 1)) w') (R (Ending.returned (Value.int IntKind.i64 0)) w'))))
theorem vc_cmpS (a : ByteArray) (b : ByteArray) (w : World) (R : Ending → World → Prop) (h : VC_cmpS a b w R) : Calls Tryz.prog 74 ([Value.string
    a,
  Value.string b] : List Value).toArray w R := by
  have e : execR { P := Tryz.prog, loops := [], pur := pur1, tails := [], joins := [], boxes := [] } Tryz.f74.results.toList R (Tryz.f74.body.getD .skip) (initF [Value.string
    a,
  Value.string
    b] (Tryz.f74.ntmps - ([Value.string a, Value.string b] : List Value).length)) w = VC_cmpS a b w R := by kernel_rfl
  have hb : Tryz.f74.body = some (Tryz.f74.body.getD .skip) := by kernel_rfl
  exact calls_of_exec' (P := Tryz.prog) (fn := Tryz.f74) (c := Tryz.f74.body.getD .skip) (args := [Value.string a,
  Value.string b]) (w := w) (R := R) pur1_ok Tryz.func74 hb e h

end Go.Proofs.YtkkfnlehlkiejaaGreatDoor
