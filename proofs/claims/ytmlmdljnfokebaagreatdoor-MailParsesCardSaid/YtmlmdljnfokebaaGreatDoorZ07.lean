/- Chapter 49: the contracts of field.ValidName, Check, Fold, Print, and of mail.Print. Texts have at most 2^30 bytes. -/
import Derived.Test.YtmlmdljnfokebaaGreatDoorZ06
import Derived.Lib.ItoaLen
import Derived.Test.YtmlmdljnfokebaaGreatDoorZ04
import Derived.LaidSub
import Derived.Lib.LaidTab
import Derived.Test.YtmlmdljnfokebaaGreatDoorZ03
import Derived.Maps.Keyed
import Derived.Test.YtmlmdljnfokebaaGreatDoorProg
import Derived.Test.YtmlmdljnfokebaaGreatDoorZ02
import Derived.KernelRfl
namespace Go.Proofs.YtmlmdljnfokebaaGreatDoor
open Go.RowKit

def nameC (c : Int) : Bool := letterB c || digitB c || c == 45
def nameB (s : ByteArray) : Bool := decide (0 < s.size) && decide (s.size ≤ 40) && letterB (at8 s 0) && (List.range s.size).all fun i => nameC (at8 s i)
theorem byte_cell {w : World} {g : Nat} {s : ByteArray} {c : Nat} {t : TypeId} {fz : Nat × Nat} (h : w.heap[g]? = some (.cells (bytesRow s c) t fz)) {k : Nat} (hk : k < s.size) : w.cell? ⟨g, 0 + k, none⟩ = some (.int .u8 (at8 s k)) := by
  rw [cell_block h, Nat.zero_add, bytesRow_at s c k hk, at8_lt s k hk]
  rfl
theorem bcon_any (s : ByteArray) (b c : Nat) (f : FuncId) (fa fb : Array Value) (g : Int → Bool) (w : World) (hS : ∀ k, k < s.size → w.cell? ⟨b, 0 + k, none⟩ = some (.int .u8 (at8 s k))) (hs : s.size ≤ 1073741824) (hok : okFn Tryz.prog f = true)
    (hF : ∀ x, ∀ w1, K0 w w1 → Calls Tryz.prog f (appA fa [.int .u8 x] fb) w1 fun e w2 => e = .returned (.bool (g x)) ∧ K0 w1 w2) :
    Calls Tryz.prog 142 #[.slice (some ⟨b, 0, none⟩) s.size c, .func (.func f) fa fb] w fun e w' => e = .returned (.bool ((List.range s.size).any fun i => g (at8 s i))) ∧ K0 w w' := by
  have hidx : Calls Tryz.prog 109 #[.slice (some ⟨b, 0, none⟩) s.size c, .func (.func f) fa fb] w fun e w' => (∃ x : Int, e = .returned (.int .i64 x) ∧ decide (x ≥ 0) = (List.range s.size).any fun i => g (at8 s i)) ∧ K0 w w' := by
    refine vc_bidx (some ⟨b, 0, none⟩) s.size c f fa fb w _ ?_
    refine ⟨fun vs w' => ∃ i : Nat, vs = [.int .i64 (i : Int)] ∧ i ≤ s.size ∧ (∀ j, j < i → g (at8 s j) = false) ∧ K0 w w',
      fun vs _ => (match vs with | .int _ x :: _ => s.size - x.toNat | _ => 0), ⟨0, rfl, by omega, (fun j h => by omega), .refl _ _⟩, ?_⟩
    rintro x w1 ⟨i, hv, hi, hall, k1⟩
    simp only [List.cons.injEq, Value.int.injEq, true_and, and_true] at hv
    subst hv
    refine bsp_intro (fun hlt => ?_) (fun hge => ?_)
    · have hlt : i < s.size := by simp at hlt; omega
      rw [Int.toNat_natCast]
      refine nn_is rfl ⟨⟨by omega, by omega⟩, at8 s i, k1.cell' (hS i hlt) (fun h => h), f, fa, fb, rfl, hok, ⟨(hF (at8 s i) w1 k1).mono fun e w2 ⟨he, k2⟩ => ⟨_, he, .of_k0 k2, bsp_intro (fun hg => ?_) (fun hg => ?_)⟩⟩⟩
      · refine ⟨⟨i, rfl, ?_⟩, k1.trans k2⟩
        have : ((List.range s.size).any fun i => g (at8 s i)) = true := List.any_eq_true.2 ⟨i, List.mem_range.2 hlt, hg⟩
        rw [this]; simp
      · refine ⟨⟨i + 1, by rw [inc64 (by omega)], hlt, fun j hj => ?_, k1.trans k2⟩, by rw [inc64 (by omega)]; simp only [Int.toNat_natCast]; omega⟩
        by_cases e : j = i
        · rw [e]; exact hg
        · exact hall j (by omega)
    · have hi : i = s.size := by simp at hge; omega
      subst hi
      refine ⟨⟨-1, rfl, ?_⟩, k1⟩
      have : ((List.range s.size).any fun i => g (at8 s i)) = false := List.any_eq_false.2 fun j hj => by simpa using hall j (List.mem_range.1 hj)
      rw [this]; rfl
  refine vc_bcon (some ⟨b, 0, none⟩) s.size c f fa fb w _ ⟨hidx.mono fun e w1 ⟨⟨x, he, hx⟩, k1⟩ => ⟨_, he, .of_k0 k1, by rw [hx], k1⟩⟩
theorem scon_any (l : List ByteArray) (p : Option Addr) (c : Nat) (f : FuncId) (fa fb : Array Value) (g : ByteArray → Bool) (w : World) (hR : StrP w p l) (hs : l.length ≤ 1073741824) (hok : okFn Tryz.prog f = true)
    (hF : ∀ x, ∀ w1, K0 w w1 → Calls Tryz.prog f (appA fa [.string x] fb) w1 fun e w2 => e = .returned (.bool (g x)) ∧ K0 w1 w2) :
    Calls Tryz.prog 150 #[.slice p l.length c, .func (.func f) fa fb] w fun e w' => e = .returned (.bool (l.any g)) ∧ K0 w w' := by
  have hidx : Calls Tryz.prog 162 #[.slice p l.length c, .func (.func f) fa fb] w fun e w' => (∃ x : Int, e = .returned (.int .i64 x) ∧ decide (x ≥ 0) = l.any g) ∧ K0 w w' := by
    refine vc_sidx p l.length c f fa fb w _ ?_
    refine ⟨fun vs w' => ∃ i : Nat, vs = [.int .i64 (i : Int)] ∧ i ≤ l.length ∧ (∀ j z, j < i → l[j]? = some z → g z = false) ∧ K0 w w',
      fun vs _ => (match vs with | .int _ x :: _ => l.length - x.toNat | _ => 0), ⟨0, rfl, by omega, (fun j z h => by omega), .refl _ _⟩, ?_⟩
    rintro x w1 ⟨i, hv, hi, hall, k1⟩
    simp only [List.cons.injEq, Value.int.injEq, true_and, and_true] at hv
    subst hv
    refine bsp_intro (fun hlt => ?_) (fun hge => ?_)
    · have hlt : i < l.length := by simp at hlt; omega
      obtain ⟨z, b, o, hz, hp, hc⟩ := str_get (hR.k0 k1) hlt
      rw [Int.toNat_natCast]
      refine nn_is hp ⟨⟨by omega, by omega⟩, z, hc, f, fa, fb, rfl, hok, ⟨(hF z w1 k1).mono fun e w2 ⟨he, k2⟩ => ⟨_, he, .of_k0 k2, bsp_intro (fun hg => ?_) (fun hg => ?_)⟩⟩⟩
      · refine ⟨⟨i, rfl, ?_⟩, k1.trans k2⟩
        have : l.any g = true := List.any_eq_true.2 ⟨z, List.mem_of_getElem? hz, hg⟩
        rw [this]; simp
      · refine ⟨⟨i + 1, by rw [inc64 (by omega)], hlt, fun j y hj hy => ?_, k1.trans k2⟩, by rw [inc64 (by omega)]; simp only [Int.toNat_natCast]; omega⟩
        by_cases e : j = i
        · rw [e, hz] at hy; cases hy; exact hg
        · exact hall j y (by omega) hy
    · have hi : i = l.length := by simp at hge; omega
      subst hi
      refine ⟨⟨-1, rfl, ?_⟩, k1⟩
      have : l.any g = false := List.any_eq_false.2 fun z hz => by
        obtain ⟨j, hj, e⟩ := List.getElem_of_mem hz
        simpa using hall j z hj (by rw [List.getElem?_eq_getElem hj, e])
      rw [this]; rfl
  refine vc_scon p l.length c f fa fb w _ ⟨hidx.mono fun e w1 ⟨⟨x, he, hx⟩, k1⟩ => ⟨_, he, .of_k0 k1, by rw [hx], k1⟩⟩

theorem fvalid_any (s : ByteArray) (w : World) : Calls Tryz.prog 110 #[.string s] w fun e w' => e = .returned (.bool (nameB s)) ∧ K0 w w' := by
  refine vc_fvalid s w _ ?_
  unfold VC_fvalid
  rw [toList_nil]
  refine ⟨gimp_intro fun h => ?_, bsp_intro (fun h => ?_) (fun h => ?_)⟩
  · simp only [Bool.not_eq_true', Bool.or_eq_false_iff, decide_eq_false_iff_not] at h
    omega
  · have : nameB s = false := by
      unfold nameB
      simp only [Bool.or_eq_true, decide_eq_true_eq, Bool.not_eq_true'] at h
      rcases h with (h | h) | h
      · have : decide (0 < s.size) = false := decide_eq_false (by omega)
        rw [this]; rfl
      · have : decide (s.size ≤ 40) = false := decide_eq_false (by omega)
        rw [this]; simp
      · rw [h]; simp
    rw [this]; exact ⟨rfl, .refl _ _⟩
  simp only [Bool.or_eq_false_iff, decide_eq_false_iff_not, Bool.not_eq_false'] at h
  intro c n w1 hc hn
  have k1 : K0 w w1 := (hn.kp (fun _ => False)).of_drew
  refine ⟨.of_k0 k1, ⟨(bcon_any s n c 143 #[] #[] (fun c => !letterB c && !digitB c && c != 45) w1 (fun k hk => byte_cell hn.block hk) (by omega) (by kernel_rfl) (fun x w2 _ => vc_fvalidC x w2 _ ⟨rfl, .refl _ _⟩)).mono fun e w2 ⟨he, k2⟩ => ⟨_, he, .of_k0 k2, ?_, k1.trans k2⟩⟩⟩
  have e1 : nameB s = !((List.range s.size).any fun i => (!letterB (at8 s i) && !digitB (at8 s i) && at8 s i != 45)) := by
    unfold nameB
    have h1 : decide (0 < s.size) = true := decide_eq_true (by omega)
    have h2 : decide (s.size ≤ 40) = true := decide_eq_true (by omega)
    rw [h1, h2, h.2, List.not_any_eq_all_not]
    simp only [Bool.true_and]
    congr 1
    funext i
    unfold nameC
    cases letterB (at8 s i) <;> cases digitB (at8 s i) <;> simp [bne]
  rw [e1]

def fchk (a b : ByteArray) : Int := if nameB a = false then 12 else if 0 ≤ prtN b then 6 else if squeeze b ≠ b then 3 else if 8192 < b.size ∨ (words b).any (fun x => decide (900 < x.size)) = true then 5 else 0
theorem strP_words {w : World} {base : Nat} {p : Option Addr} {c : Nat} {l : List ByteArray} (ho : w.ownsRow base 9 1 (.slice p l.length c) l.length (l.map .string)) : StrP w p l := strP_own ho
theorem fcheck_any (a b : ByteArray) (w : World) (hz : b.size ≤ 1073741824) :
    Calls Tryz.prog 123 #[.agg #[.string a, .string b]] w fun e w' => e = .returned (.int .i64 (fchk a b)) ∧ K0 w w' := by
  refine vc_fcheck a b w _ (fun n W hW => ?_)
  have kW : K0 w W := hW.kk rfl
  unfold fchk
  refine ⟨(fvalid_any a W).mono fun e w1 ⟨he, k1⟩ => ⟨_, he, .of_k0 k1, bsp_intro (fun h => ?_) (fun h => ?_)⟩⟩
  · rw [if_pos (by simpa using h)]; exact ⟨rfl, kW.trans k1⟩
  rw [if_neg (by simpa using h)]
  refine ⟨(printable_any b w1 hz).mono fun e w2 ⟨he, k2⟩ => ⟨_, he, .of_k0 k2, bsp_intro (fun h => ?_) (fun h => ?_)⟩⟩
  · rw [if_pos (by simpa using h)]; exact ⟨rfl, (kW.trans k1).trans k2⟩
  rw [if_neg (by simpa using h)]
  have k02 := (kW.trans k1).trans k2
  intro W3 hW3
  have k3 : K0 w2 W3 := hW3.kk rfl
  have hc3 : W3.heap[n]? = _ := hW3.cells 0 rfl
  have k03 := k02.trans k3
  refine ⟨fun wx => K0 W3 wx, .refl _ _, b, fun wx k => cell_at (k.blk hc3 (fun h => h)) rfl, b, fun wx k => cell_at (k.blk hc3 (fun h => h)) rfl, ?_⟩
  refine ⟨(squeeze_any b W3 hz).mono fun e w4 ⟨he, k4⟩ => ⟨_, he, k4, .of_k0 k4, bsp_intro (fun h => ?_) (fun h => ?_)⟩⟩
  · rw [if_pos (fun e => by rw [e] at h; simp at h)]; exact ⟨rfl, k03.trans k4⟩
  rw [if_neg (fun hne => hne (str_eq (by simpa using h)))]
  have k04 := k03.trans k4
  refine ⟨b, gimp_intro fun _ => cell_at (k4.blk hc3 (fun h => h)) rfl, bsp_intro (fun h => ?_) (fun h => ?_)⟩
  · have h8 : ¬ 8192 < b.size := by simp at h; omega
    have hs := wordsF_sum b b.size 0 (by omega)
    refine ⟨(words_any b w4 hz).mono fun e w5 ⟨⟨p, c, he, ho⟩, k5⟩ => ⟨_, _, _, he, .of_k0 k5, ?_⟩⟩
    refine ⟨(scon_any (words b) p c 148 #[] #[] (fun x => decide (900 < x.size)) w5 (strP_own ho) (by unfold words; omega) (by kernel_rfl) (fun x w6 _ => vc_fcheckC x w6 _ ⟨by congr 2; apply decide_eq_decide.2; omega, .refl _ _⟩)).mono fun e w6 ⟨he, k6⟩ => ⟨_, he, .of_k0 k6, bsp_intro (fun hx => ?_) (fun hx => ?_)⟩⟩
    · rw [if_pos (.inr (by simpa using hx))]; exact ⟨rfl, (k04.trans k5).trans k6⟩
    · rw [if_neg (by rintro (h | h); exact h8 h; rw [h] at hx; simp at hx)]; exact ⟨rfl, (k04.trans k5).trans k6⟩
  · rw [if_pos (.inl (by simp at h; omega))]
    exact ⟨.refl _ _, .refl _ _, rfl, k04⟩

/-! ### A field's lines -/
def foldW : List ByteArray → Nat → ByteArray → ByteArray → ByteArray
  | [], _, line, text => text ++ (line ++ ⟨#[10]⟩)
  | w :: r, k, line, text => if 0 < k ∧ 78 < line.size + 1 + w.size then foldW r (k + 1) (⟨#[32]⟩ ++ w) (text ++ (line ++ ⟨#[10]⟩)) else foldW r (k + 1) (line ++ (⟨#[32]⟩ ++ w)) text
def foldT (a b : ByteArray) : ByteArray := foldW (words b) 0 (a ++ ⟨#[58]⟩) ⟨#[]⟩
theorem foldW_size : ∀ (l : List ByteArray) (k : Nat) (line text : ByteArray), (foldW l k line text).size ≤ text.size + line.size + 1 + 2 * l.length + sumZ l
  | [], k, line, text => by simp only [foldW, ByteArray.size_append, size_one]; omega
  | w :: r, k, line, text => by
    rw [sumZ_cons, List.length_cons]
    unfold foldW
    split
    · have := foldW_size r (k + 1) (⟨#[32]⟩ ++ w) (text ++ (line ++ ⟨#[10]⟩))
      simp only [ByteArray.size_append, size_one] at this
      omega
    · have := foldW_size r (k + 1) (line ++ (⟨#[32]⟩ ++ w)) text
      simp only [ByteArray.size_append, size_one] at this
      omega
theorem owns_types {w w' : World} {base b : Nat} {v : Value} {n : Nat} {xs : List Value} (h : w.ownsRow base 9 1 v n xs) (hf : ∀ k c ty f, w.heap[k]? = some (.cells c ty f) → k ≠ b → ty ≠ 5 → w'.heap[k]? = w.heap[k]?) (hb : ∀ g, v.ownBlock = some g → g ≠ b) : w'.ownsRow base 9 1 v n xs := by
  refine ⟨h.1, ?_⟩
  rcases h.2 with h2 | ⟨g, cap, cur, hv, hg, hblk, r⟩
  · exact .inl h2
  · exact .inr ⟨g, cap, cur, hv, hg, by rw [hf _ _ _ _ hblk (hb g (by rw [hv]; rfl)) (by decide)]; exact hblk, r⟩
theorem nil_app (a : ByteArray) : (⟨#[]⟩ ++ a : ByteArray) = a := by show ByteArray.empty ++ a = a; simp
theorem ffold_any (a b : ByteArray) (w : World) (ha : a.size ≤ 1073741824) (hz : b.size ≤ 1073741824) :
    Calls Tryz.prog 81 #[.agg #[.string a, .string b]] w fun e w' => e = .returned (.tuple #[.string (if fchk a b = 0 then foldT a b else ⟨#[]⟩), .int .i64 (fchk a b)]) ∧ K0 w w' := by
  refine vc_ffold a b w _ (fun n W hW => ?_)
  have kW : K0 w W := hW.kk rfl
  refine ⟨(fcheck_any a b W hz).mono fun e w1 ⟨he, k1⟩ => ⟨_, he, .of_k0 k1, bsp_intro (fun h => ?_) (fun h => ?_)⟩⟩
  · rw [if_neg (by simpa using h)]; exact ⟨rfl, kW.trans k1⟩
  have h0 : fchk a b = 0 := by simpa using h
  rw [if_pos h0, h0]
  intro nb
  refine ⟨nneg (by rw [size_one]; omega), fun W2 hW2 => ?_⟩
  have k2 : K0 w1 W2 := hW2.kk rfl
  have k02 := (kW.trans k1).trans k2
  have gb : w.heap.size ≤ nb := by have h1 : w1.heap.size ≤ nb := hW2.fresh 0 rfl rfl; have := (kW.trans k1).size; omega
  have gn : w.heap.size ≤ n := hW.fresh 0 rfl rfl
  have hnb : n ≠ nb := fun e => by have h1 : w1.heap.size ≤ nb := hW2.fresh 0 rfl rfl; have h2 := block_lt (hW.cells 0 rfl); have := k1.size; simp only at h2; omega
  have hB : Bld nb ⟨#[]⟩ W2 := .new (hW2.cells 0 rfl)
  have hs := wordsF_sum b b.size 0 (by omega)
  refine ⟨(words_any b W2 hz).mono fun e w3 ⟨⟨p, c, he, ho⟩, k3⟩ => ⟨_, _, _, he, .of_k0 k3, ?_⟩⟩
  have hpb : ∀ g, (Value.slice p (words b).length c).ownBlock = some g → g ≠ nb := fun g hg => by have := own_ge ho hg; have := hB.lt; omega
  have hz2 : (words b).length ≤ 1073741824 ∧ sumZ (words b) ≤ 1073741824 := by unfold words; omega
  have hFd : foldW ((words b).drop 0) 0 (a ++ ⟨#[58]⟩) ⟨#[]⟩ = foldT a b := rfl
  generalize foldT a b = F at hFd
  generalize words b = l at *
  refine ⟨fun vs w' => ∃ (i : Nat) (line text : ByteArray), vs = [.int .i64 (i : Int), .int .i64 (i : Int), .string line] ∧ i ≤ l.length ∧ foldW (l.drop i) i line text = F ∧ Bld nb text w' ∧ w'.ownsRow W2.heap.size 9 1 (.slice p l.length c) l.length (l.map .string) ∧ K0 w w' ∧ text.size + line.size ≤ a.size + 1 + 2 * i + sumZ (l.take i),
    fun vs _ => (match vs with | .int _ x :: _ => l.length - x.toNat | _ => 0), ⟨0, _, _, rfl, by omega, hFd, hB.k0 k3, ho, k02.trans k3, by rw [ByteArray.size_append, size_one]; show 0 + _ ≤ _; simp [sumZ]⟩, ?_⟩
  rintro x x1 x2 w4 ⟨i, line, text, hv, hi, hf, hB4, ho4, k4, hsz⟩ hL4
  simp only [List.cons.injEq, Value.int.injEq, Value.string.injEq, true_and, and_true] at hv
  obtain ⟨rfl, rfl, rfl⟩ := hv
  have hn4 : w4.heap[n]? = some (.cells #[.string a, .string b] 96 (0, 0)) := hL4.cells 0 rfl
  have hst := sumZ_take l i
  have hw4 := hB4.write (x2 ++ ⟨#[10]⟩) (by rw [ByteArray.size_append, size_one]; omega)
  refine bsp_intro (fun hlt => ?_) (fun hge => ?_)
  · have hlt : i < l.length := by simp at hlt; omega
    obtain ⟨z, bz, oz, hz', hp, hc'⟩ := str_get (strP_own ho4) hlt
    have hs2 := sumZ_take l (i + 1)
    rw [take_snoc hz', sumZ_snoc] at hs2
    obtain ⟨hi', ez⟩ := List.getElem?_eq_some_iff.1 hz'
    rw [List.drop_eq_getElem_cons hi', ez] at hf
    rw [Int.toNat_natCast, wr64 (x := (x2.size : Int) + 1) (by omega) (by omega)]
    refine nn_is hp ⟨⟨by omega, by omega⟩, z, hc', ?_⟩
    rw [wr64 (x := (x2.size : Int) + 1 + (z.size : Int)) (by omega) (by omega)]
    refine bsp_intro (fun h => ?_) (fun h => ?_)
    · have h : 0 < i ∧ 78 < x2.size + 1 + z.size := by simp at h; omega
      have hf' : foldW (l.drop (i + 1)) (i + 1) (⟨#[32]⟩ ++ z) (text ++ (x2 ++ ⟨#[10]⟩)) = F := by
        rw [← hf]; show _ = if _ then _ else _; rw [if_pos h]
      refine ⟨nneg (by rw [size_one]; omega), ⟨hw4.mono fun e w5 ⟨he, hB5, k5, hf5⟩ => ⟨_, _, he, ⟨k5.size, fun m hm hlt' => ?_⟩, nneg (by rw [size_one]; omega), nneg (by rw [ByteArray.size_append, size_one]; show 0 + _ ≤ _; omega), ⟨i + 1, _, _, ?_, hlt, hf', hB5, owns_types ho4 hf5 hpb, k4.fresh k5 (fun j hj e => by omega), ?_⟩, by rw [inc64 (by omega)]; simp only [Int.toNat_natCast]; omega⟩⟩⟩
      · obtain rfl : m = n := by simpa using hm
        exact hf5 _ _ _ _ hn4 hnb (Nat.ne_of_beq_eq_false rfl)
      · rw [inc64 (by omega), nil_app]
      · rw [take_snoc hz', sumZ_snoc]; simp only [ByteArray.size_append, size_one]; omega
    · have h : ¬ (0 < i ∧ 78 < x2.size + 1 + z.size) := by
        rintro ⟨h1, h2⟩
        simp at h
        have := h (by omega)
        omega
      have hf' : foldW (l.drop (i + 1)) (i + 1) (x2 ++ (⟨#[32]⟩ ++ z)) text = F := by
        rw [← hf]; show _ = if _ then _ else _; rw [if_neg h]
      refine ⟨nneg (by rw [size_one]; omega), nneg (by rw [ByteArray.size_append, size_one]; omega), ⟨i + 1, _, text, ?_, hlt, hf', hB4, ho4, k4, ?_⟩, by rw [inc64 (by omega)]; simp only [Int.toNat_natCast]; omega⟩
      · rw [inc64 (by omega)]
      · rw [take_snoc hz', sumZ_snoc]; simp only [ByteArray.size_append, size_one]; omega
  · have hi : i = l.length := by simp at hge; omega
    subst hi
    rw [List.drop_length] at hf
    have hf : text ++ (x2 ++ ⟨#[10]⟩) = F := hf
    refine ⟨nneg (by rw [size_one]; omega), ⟨hw4.mono fun e w5 ⟨he, hB5, k5, hf5⟩ => ⟨_, _, he, ⟨k5.size, fun m hm hlt' => ?_⟩, ?_⟩⟩⟩
    · obtain rfl : m = n := by simpa using hm
      exact hf5 _ _ _ _ hn4 hnb (Nat.ne_of_beq_eq_false rfl)
    · rw [hf] at hB5
      have hn5 : w5.heap[n]? = some (.cells #[.string a, .string b] 96 (0, 0)) := by rw [hf5 _ _ _ _ hn4 hnb (Nat.ne_of_beq_eq_false rfl)]; exact hn4
      refine ⟨hB5.textT.mono fun e w6 ⟨he, k6, hf6⟩ => ⟨_, he, ⟨k6.size, fun m hm hlt' => ?_⟩, rfl, (k4.fresh k5 (fun j hj e => by omega)).fresh k6 (fun j hj e => by omega)⟩⟩
      obtain rfl : m = n := by simpa using hm
      exact hf6 _ _ _ _ hn5 hnb (Nat.ne_of_beq_eq_false rfl)

end Go.Proofs.YtmlmdljnfokebaaGreatDoor

/- Chapter 49: the contracts of ascii.Digits, field.Print, mail.Print. The library's table of powers of ten reads as laid. -/
namespace Go.Proofs.YtmlmdljnfokebaaGreatDoor
open Go.RowKit

/-- The table of powers of ten reads as it was laid. -/
def GT (w : World) : Prop := Lib.TabIs Tryz.prog w "internal/strconv.uint64pow10" .u64 Lib.pow10Tab
theorem GT.k0 {w w' : World} (h : GT w) (hk : K0 w w') : GT w' := by
  unfold GT Lib.TabIs World.var? at *
  cases hg : Tryz.prog.globalNamed "internal/strconv.uint64pow10" with
  | none => simp [hg] at h
  | some g =>
    simp only [hg, Option.bind_some] at h ⊢
    have hlt : g < w.heap.size := by
      rcases Nat.lt_or_ge g w.heap.size with h' | h'
      · exact h'
      · rw [Array.getElem?_eq_none h'] at h; simp at h
    rw [hk.block g hlt (fun h => h)]
    exact h
theorem grow_k0 (w : World) (k : Nat) (os : Array Obj) : K0 w (Go.Sort.grow (w.drewN k) os) :=
  ⟨rfl, rfl, rfl, by show w.heap.size ≤ (w.heap ++ os).size; rw [Array.size_append]; omega, fun j hj _ => by show (w.heap ++ os)[j]? = _; rw [Array.getElem?_append_left hj]⟩
def I64 (x : Int) : Prop := -9223372036854775808 ≤ x ∧ x ≤ 9223372036854775807
def decI (x : Int) : ByteArray := ⟨(Lib.itoa x).toArray⟩
theorem decI_size {x : Int} (h : I64 x) : (decI x).size ≤ 21 := by
  have := Lib.itoa_length_le x h.1 h.2
  show (Lib.itoa x).toArray.size ≤ 21
  simpa using this
theorem digits_any (x : Int) (w : World) (hT : GT w) (h : I64 x) :
    Calls Tryz.prog 41 #[.int .i64 x] w fun e w' => e = .returned (.string (decI x)) ∧ K0 w w' := by
  refine vc_digits x w _ ⟨(Tryz.strconv_Itoa x h.1 h.2 w hT).mono fun e w1 ⟨he, k, os, hw⟩ => ⟨_, he, ?_⟩⟩
  have k1 : K0 w w1 := by rw [hw]; exact grow_k0 w k os
  exact ⟨.of_k0 k1, rfl, k1⟩

/-! ### A header -/
def fC (x : ByteArray × ByteArray) : List Value := [.string x.1, .string x.2]
def fpr : List (ByteArray × ByteArray) → ByteArray → ByteArray × Int
  | [], t => if 65536 < t.size then (⟨#[]⟩, 5) else (t, 0)
  | x :: r, t => if fchk x.1 x.2 ≠ 0 then (⟨#[]⟩, fchk x.1 x.2) else fpr r (t ++ foldT x.1 x.2)
theorem foldT_le {a b : ByteArray} (ha : a.size ≤ 65536) (hb : b.size ≤ 65536) : (foldT a b).size ≤ 400000 := by
  have h1 := foldW_size (words b) 0 (a ++ ⟨#[58]⟩) ⟨#[]⟩
  have h2 := wordsF_sum b b.size 0 (by omega)
  have e : (⟨#[]⟩ : ByteArray).size = 0 := rfl
  rw [e, ByteArray.size_append, size_one] at h1
  unfold foldT
  unfold words at *
  omega
theorem fprint_any (l : List (ByteArray × ByteArray)) (p : Option Addr) (c : Nat) (w : World) (hR : RowA fC 2 w p l) (hl : l.length ≤ 64) (hz : ∀ x ∈ l, x.1.size ≤ 65536 ∧ x.2.size ≤ 65536) :
    Calls Tryz.prog 39 #[.slice p l.length c] w fun e w' => e = .returned (.tuple #[.string (fpr l ⟨#[]⟩).1, .int .i64 (fpr l ⟨#[]⟩).2]) ∧ K0 w w' := by
  refine vc_fprint p l.length c w _ (bsp_intro (fun h => by simp at h; omega) (fun _ => fun nb W hW => ?_))
  have kW : K0 w W := hW.kk rfl
  have gb : w.heap.size ≤ nb := hW.fresh 0 rfl rfl
  have hB : Bld nb ⟨#[]⟩ W := .new (hW.cells 0 rfl)
  have hF0 : fpr (l.drop 0) ⟨#[]⟩ = fpr l ⟨#[]⟩ := rfl
  generalize fpr l ⟨#[]⟩ = F at hF0
  refine ⟨fun vs w' => ∃ (i : Nat) (t : ByteArray), vs = [.int .i64 (i : Int)] ∧ i ≤ l.length ∧ fpr (l.drop i) t = F ∧ Bld nb t w' ∧ K0 w w' ∧ t.size ≤ i * 400000,
    fun vs _ => (match vs with | .int _ x :: _ => l.length - x.toNat | _ => 0), ⟨0, _, rfl, by omega, hF0, hB, kW, by show 0 ≤ _; omega⟩, ?_⟩
  rintro x w2 ⟨i, t, hv, hi, hf, hB2, k2, hsz⟩
  simp only [List.cons.injEq, Value.int.injEq, true_and, and_true] at hv
  subst hv
  refine bsp_intro (fun hlt => ?_) (fun hge => ?_)
  · have hlt : i < l.length := by simp at hlt; omega
    obtain ⟨y, b, o, hy, hp, hat⟩ := (hR.k0 k2).get hlt
    obtain ⟨hi', ey⟩ := List.getElem?_eq_some_iff.1 hy
    have hyz := hz y (List.mem_of_getElem? hy)
    have hfl := foldT_le hyz.1 hyz.2
    rw [List.drop_eq_getElem_cons hi', ey] at hf
    rw [Int.toNat_natCast]
    refine nn_is hp ⟨⟨by omega, by omega⟩, y.1, y.2, hat, fun n W3 hW3 => ?_⟩
    have k3 : K0 w2 W3 := hW3.kk rfl
    have hc3 : W3.heap[n]? = some (.cells #[.string y.1, .string y.2] 96 (0, 0)) := hW3.cells 0 rfl
    have hnn : n ≠ nb := fun e => by have h1 : w2.heap.size ≤ n := hW3.fresh 0 rfl rfl; have := hB2.lt; omega
    refine ⟨(ffold_any y.1 y.2 W3 (by omega) (by omega)).mono fun e w4 ⟨he, k4⟩ => ⟨_, _, he, .of_k0 k4, bsp_intro (fun h => ?_) (fun h => ?_)⟩⟩
    · have h : fchk y.1 y.2 ≠ 0 := by simpa using h
      have : F = (⟨#[]⟩, fchk y.1 y.2) := by rw [← hf]; show (if _ then _ else _) = _; rw [if_pos h]
      rw [this]; exact ⟨rfl, (k2.trans k3).trans k4⟩
    · have h0 : fchk y.1 y.2 = 0 := by simpa using h
      have hf' : fpr (l.drop (i + 1)) (t ++ foldT y.1 y.2) = F := by rw [← hf]; show _ = if _ then _ else _; rw [if_neg (by rw [h0]; decide)]
      rw [if_pos h0]
      have hc4 := k4.blk hc3 (fun h => h)
      have hw4 := ((hB2.k0 k3).k0 k4).write (foldT y.1 y.2) (by omega)
      refine ⟨hw4.mono fun e w5 ⟨he, hB5, k5, hf5⟩ => ⟨_, _, he, ⟨k5.size, fun m hm hlt' => ?_⟩, ⟨i + 1, _, ?_, hlt, hf', hB5, ((k2.trans k3).trans k4).fresh k5 (fun j hj e => by omega), ?_⟩, by rw [inc64 (by omega)]; simp only [Int.toNat_natCast]; omega⟩⟩
      · obtain rfl : m = n := by simpa using hm
        exact hf5 _ _ _ _ hc4 hnn (Nat.ne_of_beq_eq_false rfl)
      · rw [inc64 (by omega)]
      · rw [ByteArray.size_append]; omega
  · have hi : i = l.length := by simp at hge; omega
    subst hi
    rw [List.drop_length] at hf
    have hf : (if 65536 < t.size then ((⟨#[]⟩ : ByteArray), (5 : Int)) else (t, 0)) = F := hf
    have hlen := Tryz.Builder_Len nb nb _ w2 hB2
    rw [Lib.strCells_length] at hlen
    refine ⟨hlen.mono fun e w3 ⟨he, hw⟩ => ⟨_, he, ?_⟩⟩
    subst hw
    refine ⟨.refl _ _, bsp_intro (fun h => ?_) (fun h => ?_)⟩
    · rw [if_pos (by simp at h; omega)] at hf
      rw [← hf]; exact ⟨rfl, k2⟩
    · rw [if_neg (by simp at h; omega)] at hf
      rw [← hf]
      exact ⟨hB2.text.mono fun e w4 ⟨he, k4⟩ => ⟨_, he, ⟨k4.size, fun _ hm => by cases hm⟩, rfl, k2.fresh k4 (fun j hj e => by omega)⟩⟩

/-! ### The text of a message -/
def hdM (m : Ml) : List (ByteArray × ByteArray) := [(⟨#[70, 114, 111, 109]⟩, m.fu ++ ⟨#[64]⟩ ++ m.fs), (⟨#[84, 111]⟩, m.tu ++ ⟨#[64]⟩ ++ m.ts), (⟨#[78, 117, 109, 98, 101, 114]⟩, decI m.n), (⟨#[68, 97, 116, 101]⟩, decI m.d), (⟨#[72, 111, 112, 115]⟩, joinT 32 m.hops), (⟨#[83, 117, 98, 106, 101, 99, 116]⟩, m.sj)]
def prM (m : Ml) : ByteArray × Int := if chkM m ≠ 0 then (⟨#[]⟩, chkM m) else if (fpr (hdM m) ⟨#[]⟩).2 ≠ 0 then (⟨#[]⟩, (fpr (hdM m) ⟨#[]⟩).2) else ((fpr (hdM m) ⟨#[]⟩).1 ++ ⟨#[10]⟩ ++ m.bd, 0)
theorem siteE_bd {s : ByteArray} (h : siteE s = 0) : s.size ≤ 30 := by
  unfold siteE siteS at h
  split at h
  · cases h
  split at h
  · cases h
  · omega
theorem userB_bd {s : ByteArray} (h : ¬ userB s = false) : s.size ≤ 40 := by
  unfold userB at h
  simp only [Bool.and_eq_false_iff, decide_eq_false_iff_not] at h
  exact Classical.byContradiction fun h' => h (.inl h')
theorem hopsE_sum : ∀ (l seen : List ByteArray), hopsE seen l = 0 → sumZ l ≤ 30 * l.length
  | [], _, _ => by simp [sumZ]
  | h :: r, seen, hE => by
    unfold hopsE at hE
    split at hE
    · rename_i h1; exact absurd hE h1
    · rename_i h1
      split at hE
      · cases hE
      · have := hopsE_sum r _ hE
        have := siteE_bd (s := h) (by omega)
        rw [sumZ_cons, List.length_cons]; omega
theorem chkM_bd {m : Ml} (h : chkM m = 0) : m.fu.size ≤ 40 ∧ m.fs.size ≤ 30 ∧ m.tu.size ≤ 40 ∧ m.ts.size ≤ 30 ∧ 0 ≤ m.n ∧ m.n ≤ 2147483647 ∧ 0 ≤ m.d ∧ m.d ≤ 105190559 ∧ m.sj.size ≤ 200 ∧ m.hops.length ≤ 16 ∧ sumZ m.hops ≤ 30 * m.hops.length ∧ m.bd.size ≤ 32768 := by
  unfold chkM at h
  split at h
  · rename_i h1; exact absurd h h1
  rename_i he
  split at h
  · rename_i h1; exact absurd h h1
  rename_i hs
  split at h
  · cases h
  rename_i hl
  split at h
  · rename_i h1; exact absurd h h1
  rename_i hh
  split at h
  · cases h
  rename_i hb
  have he : envE m = 0 := Classical.byContradiction he
  have hs : subjE m.sj = 0 := Classical.byContradiction hs
  have hh : hopsE [] m.hops = 0 := Classical.byContradiction hh
  have hs2 : m.sj.size ≤ 200 := by
    unfold subjE at hs
    split at hs
    · cases hs
    · omega
  unfold envE at he
  split at he
  · cases he
  rename_i e1
  split at he
  · rename_i h1; exact absurd he h1
  rename_i e2
  split at he
  · cases he
  rename_i e3
  split at he
  · rename_i h1; exact absurd he h1
  rename_i e4
  split at he
  · cases he
  rename_i e5
  split at he
  · cases he
  rename_i e6
  have e6 : minB m.d = true := by simpa using e6
  simp only [minB, Bool.and_eq_true, decide_eq_true_eq] at e6
  exact ⟨userB_bd e1, siteE_bd (Classical.byContradiction e2), userB_bd (fun h => e3 (.inl h)), siteE_bd (Classical.byContradiction e4), by omega, by omega, e6.1, e6.2, hs2, by omega, hopsE_sum _ _ hh, by omega⟩
set_option maxHeartbeats 1000000 in
theorem mprint_any (m : Ml) (p : Option Addr) (c : Nat) (w : World) (hR : StrP w p m.hops) (hc : m.hops.length ≤ c) (hb : m.bd.size ≤ 4611686018427387904) (hhl : m.hops.length ≤ 4611686018427387904) (hT : GT w) :
    Calls Tryz.prog 12 #[mxA m p c] w fun e w' => e = .returned (.tuple #[.string (prM m).1, .int .i64 (prM m).2]) ∧ K0 w w' := by
  refine vc_mprint m.fu m.fs m.tu m.ts m.n m.d m.sj p m.hops.length c m.bd w _ (fun n1 W hW => ?_)
  have kW : K0 w W := hW.kk rfl
  unfold prM
  refine ⟨(mcheck_any m p c W (hR.k0 kW) hc hb hhl).mono fun e w1 ⟨he, k1⟩ => ⟨_, he, .of_k0 k1, bsp_intro (fun h => ?_) (fun h => ?_)⟩⟩
  · rw [if_pos (by simpa using h)]; exact ⟨rfl, kW.trans k1⟩
  have h0 : chkM m = 0 := by simpa using h
  rw [if_neg (by rw [h0]; decide)]
  obtain ⟨z1, z2, z3, z4, z5, z6, z7, z8, z9, z10, z11, z12⟩ := chkM_bd h0
  intro W2 hW2
  have k2 : K0 w1 W2 := hW2.kk rfl
  have hc2 : W2.heap[n1]? = _ := hW2.cells 0 rfl
  have k02 := (kW.trans k1).trans k2
  have hat : ∀ (o : Nat) (cs : List Value), ((#[.string m.fu, .string m.fs, .string m.tu, .string m.ts, .int .i64 m.n, .int .i64 m.d, .string m.sj, .slice p m.hops.length c, .string m.bd] : Array Value).toList.drop o).take cs.length = cs → ∀ wx, K0 W2 wx → AtL wx n1 o cs := fun o cs hcs wx k => AtL_block (k.blk hc2 (fun h => h)) hcs
  refine ⟨fun wx => K0 W2 wx, .refl _ _, m.fu, m.fs, fun wx k => hat 0 _ rfl wx k, m.tu, m.ts, fun wx k => hat 2 _ rfl wx k, m.n, fun wx k => cell_at (k.blk hc2 (fun h => h)) rfl, m.d, fun wx k => cell_at (k.blk hc2 (fun h => h)) rfl, p, m.hops.length, c, fun wx k => cell_at (k.blk hc2 (fun h => h)) rfl, m.sj, fun wx k => cell_at (k.blk hc2 (fun h => h)) rfl, ?_⟩
  refine ⟨(mstr_any m.fu m.fs W2 (by omega) (by omega)).mono fun e w3 ⟨he, k3⟩ => ⟨_, he, k3, ?_⟩⟩
  refine ⟨(mstr_any m.tu m.ts w3 (by omega) (by omega)).mono fun e w4 ⟨he, k4⟩ => ⟨_, he, k3.trans k4, ?_⟩⟩
  have k04 := k3.trans k4
  refine ⟨(digits_any m.n w4 (hT.k0 (k02.trans k04)) ⟨by omega, by omega⟩).mono fun e w5 ⟨he, k5⟩ => ⟨_, he, k04.trans k5, ?_⟩⟩
  have k05 := k04.trans k5
  refine ⟨(digits_any m.d w5 (hT.k0 (k02.trans k05)) ⟨by omega, by omega⟩).mono fun e w6 ⟨he, k6⟩ => ⟨_, he, k05.trans k6, ?_⟩⟩
  have k06 := k05.trans k6
  refine ⟨(join_any m.hops p c w6 (hR.k0 (k02.trans k06)) (by omega) (by omega) hc).mono fun e w7 ⟨he, k7⟩ => ⟨_, he, k06.trans k7, ?_⟩⟩
  have k07 := k06.trans k7
  intro n8 w8 hn8
  have k8 : K0 W2 w8 := k07.trans (hn8.kp _)
  have hrow : RowA fC 2 w8 (some ⟨n8, 0, none⟩) (hdM m) := fun k y hy => by
    refine ⟨n8, 0, rfl, AtL_block hn8.block ?_⟩
    match k, hy with
    | 0, hy => simp [hdM] at hy; subst hy; rfl
    | 1, hy => simp [hdM] at hy; subst hy; rfl
    | 2, hy => simp [hdM] at hy; subst hy; rfl
    | 3, hy => simp [hdM] at hy; subst hy; rfl
    | 4, hy => simp [hdM] at hy; subst hy; rfl
    | 5, hy => simp [hdM] at hy; subst hy; rfl
    | k + 6, hy => simp [hdM] at hy
  have hj := joinT_size 32 m.hops
  have hd1 := decI_size (x := m.n) ⟨by omega, by omega⟩
  have hd2 := decI_size (x := m.d) ⟨by omega, by omega⟩
  have hzz : ∀ x ∈ hdM m, x.1.size ≤ 65536 ∧ x.2.size ≤ 65536 := by
    intro x hx
    simp only [hdM, List.mem_cons, List.not_mem_nil, or_false] at hx
    rcases hx with rfl | rfl | rfl | rfl | rfl | rfl
    · exact ⟨by show 4 ≤ _; omega, by simp only [ByteArray.size_append, size_one]; omega⟩
    · exact ⟨by show 2 ≤ _; omega, by simp only [ByteArray.size_append, size_one]; omega⟩
    · exact ⟨by show 6 ≤ _; omega, by show (decI m.n).size ≤ _; omega⟩
    · exact ⟨by show 4 ≤ _; omega, by show (decI m.d).size ≤ _; omega⟩
    · exact ⟨by show 4 ≤ _; omega, by show (joinT 32 m.hops).size ≤ _; omega⟩
    · exact ⟨by show 7 ≤ _; omega, by show m.sj.size ≤ _; omega⟩
  have hpz : (fpr (hdM m) ⟨#[]⟩).1.size ≤ 65536 := by
    have key : ∀ (l : List (ByteArray × ByteArray)) (t : ByteArray), (fpr l t).1.size ≤ 65536 := by
      intro l
      induction l with
      | nil => intro t; unfold fpr; split; exact Nat.zero_le _; show t.size ≤ _; omega
      | cons x r ih => intro t; unfold fpr; split; exact Nat.zero_le _; exact ih _
    exact key _ _
  have hfp := fprint_any (hdM m) (some ⟨n8, 0, none⟩) 6 w8 hrow (by show 6 ≤ 64; omega) hzz
  generalize fpr (hdM m) ⟨#[]⟩ = G at *
  refine ⟨hfp.mono fun e w9 ⟨he, k9⟩ => ⟨_, _, he, .of_k0 (k8.trans k9), bsp_intro (fun h => ?_) (fun h => ?_)⟩⟩
  · rw [if_pos (by simpa using h)]; exact ⟨rfl, (k02.trans k8).trans k9⟩
  · rw [if_neg (by simpa using h)]
    exact ⟨nneg (by rw [size_one]; omega), nneg (by rw [ByteArray.size_append, size_one]; omega), rfl, (k02.trans k8).trans k9⟩

end Go.Proofs.YtmlmdljnfokebaaGreatDoor

/- Chapter 49: a text, a message as an argument, with their sizes; the table of powers of ten. No condition. -/
namespace Go.Proofs.YtmlmdljnfokebaaGreatDoor
open Go.ChangeShapes Go.WideShapes Go.ChangeAt Go.RowKit Go.Deep

section
variable {H : Type} {enc : TypeId × Value → H} {W : World} {base : Nat} {v : Value}
set_option maxRecDepth 100000 in
theorem openw_str (hv : Value.okWide Tryz.prog W .any base 9 v) (hr : Rw enc Tryz.prog W 9 v.cells.toList) : ∃ s : ByteArray, v = .string s ∧ s.size ≤ 4611686018427387904 := by
  obtain ⟨s, rfl⟩ := okWide_string Tryz.underlying9 hv
  obtain ⟨s', h, hz⟩ := hr.str Tryz.underlying9
  have h : [Value.string s] = [.string s'] := h
  simp only [List.cons.injEq, Value.string.injEq, and_true] at h
  subst h
  exact ⟨s, rfl, by omega⟩
set_option maxRecDepth 100000 in
theorem openw_int (hv : Value.okWide Tryz.prog W .any base 3 v) (hr : Rw enc Tryz.prog W 3 v.cells.toList) : ∃ x : Int, v = .int .i64 x ∧ I64 x := by
  obtain ⟨x, rfl⟩ := okWide_int Tryz.underlying3 hv
  obtain ⟨y, h, hz⟩ := hr.int64 Tryz.underlying3
  have h : [Value.int .i64 x] = [.int .i64 y] := h
  simp only [List.cons.injEq, Value.int.injEq, and_true, true_and] at h
  subst h
  exact ⟨x, rfl, hz⟩
set_option maxRecDepth 100000 in
theorem openw_strs (hv : Value.okWide Tryz.prog W .any base 24 v) (hr : Rw enc Tryz.prog W 24 v.cells.toList) : ∃ (p : Option Addr) (l : List ByteArray) (c : Nat), v = .slice p l.length c ∧ StrP W p l ∧ l.length ≤ c ∧ l.length ≤ 4611686018427387904 := by
  obtain ⟨p, n, c, rfl⟩ := okWide_slice Tryz.underlying24 hv
  obtain ⟨p', zs, c', h, z7, b7, h7, _⟩ := hr.strs Tryz.underlying24 Tryz.underlying9 (by kernel_rfl)
  rw [show Tryz.prog.bytesOf 9 = 16 by kernel_rfl] at b7
  have h : [Value.slice p n c] = [.slice p' zs.length c'] := h
  simp only [List.cons.injEq, and_true] at h
  exact ⟨p', zs, c', h, h7, z7, by omega⟩
theorem cellsM49 : Tryz.prog.cellsOf 32 = 9 := by kernel_rfl
set_option maxRecDepth 100000 in
/-- The cells of a message that was read. -/
theorem rw_M {l : List Value} (hl : l.length = 9) (hr : Rw enc Tryz.prog W 32 l) : ∃ (m : Ml) (p : Option Addr) (c : Nat), Value.agg l.toArray = mxA m p c ∧ StrP W p m.hops ∧ m.hops.length ≤ c ∧ m.hops.length ≤ 4611686018427387904 ∧ (m.fu.size ≤ 4611686018427387904 ∧ m.fs.size ≤ 4611686018427387904 ∧ m.tu.size ≤ 4611686018427387904 ∧ m.ts.size ≤ 4611686018427387904) ∧ m.bd.size ≤ 4611686018427387904 ∧ m.sj.size ≤ 4611686018427387904 ∧ I64 m.n ∧ I64 m.d := by
  match l, hl with
  | [c0, c1, c2, c3, c4, c5, c6, c7, c8], _ =>
    have hr : Rw enc Tryz.prog W 32 [c0, c1, c2, c3, c4, c5, c6, c7, c8] := hr
    have hf : Rw enc Tryz.prog W 30 [c0, c1] := hr.field Tryz.underlying32 (i := 0) rfl
    have ht : Rw enc Tryz.prog W 30 [c2, c3] := hr.field Tryz.underlying32 (i := 1) rfl
    obtain ⟨s0, e0, z0⟩ := Rw.str (cs := [c0]) (hf.field Tryz.underlying30 (i := 0) rfl) Tryz.underlying9
    obtain ⟨s1, e1, z1⟩ := Rw.str (cs := [c1]) (hf.field Tryz.underlying30 (i := 1) rfl) Tryz.underlying9
    obtain ⟨s2, e2, z2⟩ := Rw.str (cs := [c2]) (ht.field Tryz.underlying30 (i := 0) rfl) Tryz.underlying9
    obtain ⟨s3, e3, z3⟩ := Rw.str (cs := [c3]) (ht.field Tryz.underlying30 (i := 1) rfl) Tryz.underlying9
    obtain ⟨n4, e4, z4⟩ := Rw.int64 (cs := [c4]) (hr.field Tryz.underlying32 (i := 2) rfl) Tryz.underlying3
    obtain ⟨n5, e5, z5⟩ := Rw.int64 (cs := [c5]) (hr.field Tryz.underlying32 (i := 3) rfl) Tryz.underlying3
    obtain ⟨s6, e6, z6⟩ := Rw.str (cs := [c6]) (hr.field Tryz.underlying32 (i := 4) rfl) Tryz.underlying9
    obtain ⟨p, zs, c, e7, z7, b7, h7, _⟩ := Rw.strs (cs := [c7]) (hr.field Tryz.underlying32 (i := 5) rfl) Tryz.underlying24 Tryz.underlying9 (by kernel_rfl)
    obtain ⟨s8, e8, z8⟩ := Rw.str (cs := [c8]) (hr.field Tryz.underlying32 (i := 6) rfl) Tryz.underlying9
    rw [show Tryz.prog.bytesOf 9 = 16 by kernel_rfl] at b7
    simp only [List.cons.injEq, and_true] at e0 e1 e2 e3 e4 e5 e6 e7 e8
    subst e0 e1 e2 e3 e4 e5 e6 e7 e8
    exact ⟨⟨s0, s1, s2, s3, n4, n5, s6, zs, s8⟩, p, c, rfl, h7, z7, by show zs.length ≤ _; omega, ⟨by show s0.size ≤ _; omega, by show s1.size ≤ _; omega, by show s2.size ≤ _; omega, by show s3.size ≤ _; omega⟩, by show s8.size ≤ _; omega, by show s6.size ≤ _; omega, z4, z5⟩
set_option maxRecDepth 100000 in
theorem openw_M (hv : Value.okWide Tryz.prog W .any base 32 v) (hr : Rw enc Tryz.prog W 32 v.cells.toList) : ∃ (m : Ml) (p : Option Addr) (c : Nat), v = mxA m p c ∧ StrP W p m.hops ∧ m.hops.length ≤ c ∧ m.hops.length ≤ 4611686018427387904 ∧ (m.fu.size ≤ 4611686018427387904 ∧ m.fs.size ≤ 4611686018427387904 ∧ m.tu.size ≤ 4611686018427387904 ∧ m.ts.size ≤ 4611686018427387904) ∧ m.bd.size ≤ 4611686018427387904 ∧ m.sj.size ≤ 4611686018427387904 ∧ I64 m.n ∧ I64 m.d := by
  obtain ⟨cs, rfl, hsz⟩ := okWide_struct Tryz.underlying32 hv
  rw [cellsM49] at hsz
  obtain ⟨l⟩ := cs
  exact rw_M (l := l) hsz hr
end
theorem gt_of {l : List (String × DataW Unit)} {d : DataW Unit} {W : World} (h : laidMetH Tryz.prog l W) (hl : l.filter (fun x => x.1 == "internal/strconv.uint64pow10") = [("internal/strconv.uint64pow10", d)])
    (hd : d = Lib.tabData .u64 Lib.pow10Tab) : GT W := by
  have h1 := h.filter (fun x => x.1 == "internal/strconv.uint64pow10")
  rw [hl, hd] at h1
  have h2 := (laidMetH_iff.1 h1).1
  exact Lib.tabIs_of_head (rest := []) (g := 1) (t := 205) (e := 149) (n := 20) (by kernel_rfl) (by kernel_rfl) Tryz.underlying205 Tryz.underlying149 (by kernel_rfl) (by kernel_rfl) h2

end Go.Proofs.YtmlmdljnfokebaaGreatDoor

/- Maps in the program's memory: their entries as a list, looked up, written, struck. Generic: no program, no condition. -/
namespace Go.Proofs.YtmlmdljnfokebaaGreatDoor
open Go.RowKit Go.Maps

section
variable {α : Type} [DecidableEq α]
def aget {β : Type} : List (α × β) → α → Option β
  | [], _ => none
  | (b, v) :: r, a => if b = a then some v else aget r a
def aset {β : Type} : List (α × β) → α → β → List (α × β)
  | [], a, v => [(a, v)]
  | (b, u) :: r, a, v => if b = a then (a, v) :: r else (b, u) :: aset r a v
def adel {β : Type} (l : List (α × β)) (a : α) : List (α × β) := l.filter fun p => !decide (p.1 = a)
variable {β : Type}
theorem aget_aset (l : List (α × β)) (a c : α) (v : β) : aget (aset l a v) c = if a = c then some v else aget l c := by
  induction l with
  | nil => simp [aset, aget]
  | cons p r ih =>
    obtain ⟨b, u⟩ := p
    unfold aset
    by_cases h : b = a
    · subst h
      simp only [if_pos]
      unfold aget
      split <;> rfl
    · rw [if_neg h]
      simp only [aget]
      rw [ih]
      by_cases h1 : b = c
      · subst h1
        rw [if_pos rfl, if_neg (fun e => h e.symm), if_pos rfl]
      · rw [if_neg h1, if_neg h1]
theorem aget_none {l : List (α × β)} {a : α} : aget l a = none ↔ ∀ p ∈ l, p.1 ≠ a := by
  induction l with
  | nil => simp [aget]
  | cons p r ih =>
    obtain ⟨b, u⟩ := p
    unfold aget
    by_cases h : b = a
    · simp [h]
    · rw [if_neg h, ih]
      simp [h]
theorem aget_mem {l : List (α × β)} {a : α} {v : β} (h : aget l a = some v) : (a, v) ∈ l := by
  induction l with
  | nil => simp [aget] at h
  | cons p r ih =>
    obtain ⟨b, u⟩ := p
    unfold aget at h
    by_cases h' : b = a
    · rw [if_pos h'] at h
      simp at h; subst h; subst h'; simp
    · rw [if_neg h'] at h
      exact List.mem_cons_of_mem _ (ih h)
theorem aget_at {l : List (α × β)} (hd : l.Pairwise fun p q => p.1 ≠ q.1) {a : α} {v : β} (h : (a, v) ∈ l) : aget l a = some v := by
  induction l with
  | nil => cases h
  | cons p r ih =>
    obtain ⟨b, u⟩ := p
    obtain ⟨h1, h2⟩ := List.pairwise_cons.1 hd
    unfold aget
    rcases List.mem_cons.1 h with e | e
    · cases e; rw [if_pos rfl]
    · rw [if_neg (h1 _ e)]; exact ih h2 e
theorem aset_new {l : List (α × β)} {a : α} {v : β} (h : ∀ p ∈ l, p.1 ≠ a) : aset l a v = l ++ [(a, v)] := by
  induction l with
  | nil => rfl
  | cons p r ih =>
    obtain ⟨b, u⟩ := p
    unfold aset
    rw [if_neg (h (b, u) (by simp)), ih fun q hq => h q (by simp [hq])]
    rfl
theorem aset_old {l : List (α × β)} (hd : l.Pairwise fun p q => p.1 ≠ q.1) {a : α} {v u : β} {j : Nat} (hj : l[j]? = some (a, u)) : aset l a v = l.set j (a, v) := by
  induction l generalizing j with
  | nil => simp at hj
  | cons p r ih =>
    obtain ⟨b, x⟩ := p
    obtain ⟨h1, h2⟩ := List.pairwise_cons.1 hd
    unfold aset
    cases j with
    | zero =>
      simp at hj
      rw [if_pos hj.1]; rfl
    | succ j =>
      have hj' : r[j]? = some (a, u) := by simpa using hj
      rw [if_neg (h1 _ (List.mem_of_getElem? hj')), ih h2 hj']
      rfl
theorem aset_keys {l : List (α × β)} (a : α) (v : β) : ∀ p ∈ aset l a v, p = (a, v) ∨ (p ∈ l ∧ p.1 ≠ a) ∨ (p ∈ l) := by
  induction l with
  | nil => intro p hp; simp [aset] at hp; exact .inl hp
  | cons q r ih =>
    obtain ⟨b, u⟩ := q
    intro p hp
    unfold aset at hp
    split at hp
    · rcases List.mem_cons.1 hp with h | h
      · exact .inl h
      · exact .inr (.inr (by simp [h]))
    · rcases List.mem_cons.1 hp with h | h
      · exact .inr (.inr (by simp [h]))
      · rcases ih p h with h | h | h
        · exact .inl h
        · exact .inr (.inr (by simp [h.1]))
        · exact .inr (.inr (by simp [h]))
theorem aset_dis {l : List (α × β)} (hd : l.Pairwise fun p q => p.1 ≠ q.1) (a : α) (v : β) : (aset l a v).Pairwise fun p q => p.1 ≠ q.1 := by
  induction l with
  | nil => simp [aset]
  | cons q r ih =>
    obtain ⟨b, u⟩ := q
    obtain ⟨h1, h2⟩ := List.pairwise_cons.1 hd
    unfold aset
    split
    · rename_i h
      subst h
      exact List.pairwise_cons.2 ⟨h1, h2⟩
    · rename_i h
      refine List.pairwise_cons.2 ⟨fun p hp => ?_, ih h2⟩
      rcases aset_keys a v p hp with e | e | e
      · rw [e]; exact h
      · exact h1 _ e.1
      · exact h1 _ e
theorem aset_length (l : List (α × β)) (a : α) (v : β) : (aset l a v).length ≤ l.length + 1 := by
  induction l with
  | nil => simp [aset]
  | cons q r ih => obtain ⟨b, u⟩ := q; unfold aset; split <;> simp; exact ih
end

/-- The entries with their values as they lie. -/
def amap {α β γ : Type} (f : β → γ) (l : List (α × β)) : List (α × γ) := l.map fun p => (p.1, f p.2)
theorem aset_amap {α β γ : Type} [DecidableEq α] (f : β → γ) (l : List (α × β)) (a : α) (v : β) : aset (amap f l) a (f v) = amap f (aset l a v) := by
  induction l with
  | nil => rfl
  | cons p r ih =>
    obtain ⟨b, u⟩ := p
    show aset ((b, f u) :: amap f r) a (f v) = _
    unfold aset
    split
    · rfl
    · rw [ih]; rfl
theorem aget_amap {α β γ : Type} [DecidableEq α] (f : β → γ) (l : List (α × β)) (a : α) : aget (amap f l) a = (aget l a).map f := by
  induction l with
  | nil => rfl
  | cons p r ih =>
    obtain ⟨b, u⟩ := p
    show aget ((b, f u) :: amap f r) a = _
    unfold aget
    split
    · rfl
    · rw [ih]

/-- Block b is a map with these entries, in the order of their making; a key lies as enc says. -/
structure MapB {α : Type} (P : Program) (k : TypeId) (enc : α → Value) (w : World) (b : Nat) (l : List (α × Value)) : Prop where
  blk : ∃ es clock, w.heap[b]? = some (.map es clock) ∧ es.toList.map (fun e => (e.key, e.val)) = l.map (fun p => (enc p.1, p.2))
  key : ∀ p ∈ l, ∃ kl, keyOf P k (enc p.1) = some kl
  dis : l.Pairwise fun p q => p.1 ≠ q.1
  brn : ∀ es c, w.heap[b]? = some (.map es c) → (es.toList.map (·.born)).Nodup ∧ ∀ x ∈ es.toList, x.born < c

section
variable {α : Type} {P : Program} {k t e : TypeId} {enc : α → Value} {w w1 : World} {b : Nat} {l : List (α × Value)}
theorem MapB.lt (h : MapB P k enc w b l) : b < w.heap.size := by obtain ⟨es, c, hb, _⟩ := h.blk; exact block_lt hb
theorem MapB.kp {M : Nat → Prop} {w' : World} (h : MapB P k enc w b l) (hk : Kp M w w') (hm : ¬ M b) : MapB P k enc w' b l := by
  obtain ⟨es, c, hb, he⟩ := h.blk
  exact ⟨⟨es, c, hk.blk hb hm, he⟩, h.key, h.dis, fun es' c' h' => h.brn es' c' (by rw [hk.blk hb hm] at h'; rw [hb]; exact h')⟩
theorem MapB.drew (h : MapB P k enc w b l) : MapB P k enc w.drew b l := ⟨h.blk, h.key, h.dis, h.brn⟩
theorem NewB.map {c : Nat} (h : NewB w (.map #[] c) b w1) : MapB P k enc w1 b ([] : List (α × Value)) :=
  ⟨⟨#[], c, h.block, rfl⟩, (fun p hp => by cases hp), .nil, fun es c' h' => by rw [h.block] at h'; cases h'; exact ⟨.nil, fun x hx => by simp at hx⟩⟩

variable [DecidableEq α] (hinj : ∀ x y, enc x = enc y → x = y)
include hinj
theorem map_find (K : Keyed P k) {es : List MapEntry} (he : es.map (fun e => (e.key, e.val)) = l.map (fun p => (enc p.1, p.2))) (hkey : ∀ p ∈ l, ∃ kl, keyOf P k (enc p.1) = some kl) (hdis : l.Pairwise fun p q => p.1 ≠ q.1)
    {a : α} {kl : Lit} (ha : keyOf P k (enc a) = some kl) :
    (aget l a = none ∧ (Instr.findKey k (enc a) es).run P w = .ok none w) ∨
    (∃ j v u, aget l a = some v ∧ (Instr.findKey k (enc a) es).run P w = .ok (some (j, v)) w ∧ l[j]? = some (a, v) ∧ es[j]? = some u ∧ u.key = enc a) := by
  have hm : ∀ x ∈ es, ∃ p ∈ l, x.key = enc p.1 ∧ x.val = p.2 := fun x hx => by
    have : (x.key, x.val) ∈ es.map (fun e => (e.key, e.val)) := List.mem_map.2 ⟨x, hx, rfl⟩
    rw [he] at this
    obtain ⟨p, hp, e⟩ := List.mem_map.1 this
    simp at e
    exact ⟨p, hp, e.1.symm, e.2.symm⟩
  rcases K.find w ha es (fun x hx => by
    obtain ⟨p, hp, h1, _⟩ := hm x hx
    rw [h1]; exact hkey p hp) with ⟨h1, h2⟩ | ⟨j, u, h1, h2, h3⟩
  · refine .inl ⟨aget_none.2 fun p hp hpa => ?_, h1⟩
    have : (enc p.1, p.2) ∈ l.map (fun p => (enc p.1, p.2)) := List.mem_map.2 ⟨p, hp, rfl⟩
    rw [← he] at this
    obtain ⟨x, hx, e⟩ := List.mem_map.1 this
    simp at e
    exact h2 x hx (by rw [e.1, hpa])
  · have h4 : (es.map (fun e => (e.key, e.val)))[j]? = some (u.key, u.val) := by simp [h2]
    rw [he] at h4
    simp only [List.getElem?_map, Option.map_eq_some_iff] at h4
    obtain ⟨p, hp, e⟩ := h4
    simp at e
    obtain ⟨pa, pv⟩ := p
    have ea : pa = a := hinj _ _ (e.1.trans h3)
    subst ea
    have ev : pv = u.val := e.2
    subst ev
    exact .inr ⟨j, _, u, aget_at hdis (List.mem_of_getElem? hp), h1, hp, h2, h3⟩
/-- A look into a map. -/
theorem MapB.look (h : MapB P k enc w b l) (K : Keyed P k) (ht : P.underlying t = some (.map k e)) {z : Value} (hz : (zeroValue e).run P w = .ok z w) {a : α} {kl : Lit} (ha : keyOf P k (enc a) = some kl) (ok : Bool) :
    LookP P t (.map (some b)) (enc a) ok (match ok with | true => .tuple #[(aget l a).getD z, .bool (aget l a).isSome] | false => (aget l a).getD z) w := by
  obtain ⟨es, c, hb, he⟩ := h.blk
  constructor
  rcases map_find hinj K he h.key h.dis ha (w := w) with ⟨h1, h2⟩ | ⟨j, v, u, h1, h2, _⟩
  · rw [h1]
    cases ok <;> simp [Instr.lookup, run_underlying ht, MapKept.run_getObj_map hb, K.check w _ ha, h2, hz, Result.andThen]
  · rw [h1]
    cases ok <;> simp [Instr.lookup, run_underlying ht, MapKept.run_getObj_map hb, K.check w _ ha, h2, Result.andThen]
/-- An entry of a map is written. -/
theorem MapB.upd (h : MapB P k enc w b l) (K : Keyed P k) (ht : P.underlying t = some (.map k e)) {a : α} {kl : Lit} (ha : keyOf P k (enc a) = some kl) (v : Value) :
    ∃ w1, UpdP P t (.map (some b)) (enc a) v w w1 ∧ MapB P k enc w1 b (aset l a v) ∧ Kp (· = b) w w1 := by
  obtain ⟨es, c, hb, he⟩ := h.blk
  have hkp : ∀ o, Kp (· = b) w (ChangeMaps.setBlock w b o) := fun o => ⟨rfl, rfl, rfl, by simp [ChangeMaps.setBlock], fun i _ hi => ChangeMaps.heap_setBlock_other hb _ (fun e => hi (by rw [e]))⟩
  have hkeys : ∀ p ∈ aset l a v, ∃ kl, keyOf P k (enc p.1) = some kl := fun p hp => by
    rcases aset_keys a v p hp with e | e | e
    · rw [e]; exact ⟨_, ha⟩
    · exact h.key p e.1
    · exact h.key p e
  rcases map_find hinj K he h.key h.dis ha (w := w) with ⟨h1, h2⟩ | ⟨j, x, u, h1, h2, h3, h4, h5⟩
  · refine ⟨ChangeMaps.setBlock w b (.map (es.push ⟨enc a, v, c⟩) (c + 1)), ⟨?_⟩, ⟨⟨_, _, ChangeMaps.heap_setBlock_same hb _, ?_⟩, hkeys, aset_dis h.dis a v, fun es' c' h' => ?_⟩, hkp _⟩
    rotate_left 2
    · rw [ChangeMaps.heap_setBlock_same hb] at h'
      cases h'
      have h3 := h.brn es c hb
      refine ⟨?_, fun x hx => ?_⟩
      · rw [Array.toList_push, List.map_append, List.nodup_append]
        refine ⟨h3.1, by simp, fun x hx y hy e => ?_⟩
        obtain ⟨z, hz, rfl⟩ := List.mem_map.1 hx
        simp at hy
        have := h3.2 z hz
        omega
      · rw [Array.toList_push] at hx
        rcases List.mem_append.1 hx with hx | hx
        · have := h3.2 x hx; omega
        · simp at hx; subst hx; exact Nat.lt_succ_self _
    · simp [Instr.mapUpdate, run_underlying ht, MapKept.run_getObj_map hb, K.check w _ ha, h2, MapKept.run_setObj_map _ hb, Result.andThen, ChangeMaps.setBlock]
    · rw [aset_new (aget_none.1 h1)]
      simp [he]
  · refine ⟨ChangeMaps.setBlock w b (.map (es.modify j fun e' => { e' with key := enc a, val := v }) c), ⟨?_⟩, ⟨⟨_, _, ChangeMaps.heap_setBlock_same hb _, ?_⟩, hkeys, aset_dis h.dis a v, fun es' c' h' => ?_⟩, hkp _⟩
    rotate_left 2
    · rw [ChangeMaps.heap_setBlock_same hb] at h'
      cases h'
      have h3' := h.brn es c hb
      have eb : (es.modify j fun e' => { e' with key := enc a, val := v }).toList.map (·.born) = es.toList.map (·.born) := by
        have hj : es[j]? = some u := by simpa using h4
        rw [Array.toList_modify, ChangeMaps.modify_eq_set _ _ _ _ h4, List.map_set]
        exact List.ext_getElem? fun i => by
          rw [List.getElem?_set]
          split
          · rename_i hji
            subst hji
            have hlt : j < (es.toList.map (·.born)).length := by simpa using (List.getElem?_eq_some_iff.1 h4).1
            rw [if_pos hlt, List.getElem?_map, h4]; rfl
          · rfl
      refine ⟨by rw [eb]; exact h3'.1, fun x hx => ?_⟩
      have hm : x.born ∈ (es.modify j fun e' => { e' with key := enc a, val := v }).toList.map (·.born) := List.mem_map.2 ⟨x, hx, rfl⟩
      rw [eb] at hm
      obtain ⟨y, hy, e⟩ := List.mem_map.1 hm
      rw [← e]; exact h3'.2 y hy
    · have hj : es[j]? = some u := by simpa using h4
      simp [Instr.mapUpdate, run_underlying ht, MapKept.run_getObj_map hb, K.check w _ ha, h2, hj, h5, K.stays w ha, MapKept.run_setObj_map _ hb, Result.andThen, ChangeMaps.setBlock]
    · rw [aset_old h.dis h3, List.map_set, ← he, Array.toList_modify, ChangeMaps.modify_eq_set _ _ _ _ h4, List.map_set]
end

end Go.Proofs.YtmlmdljnfokebaaGreatDoor

/- delete of a map's entry, clear of a row's end, slices that are shorter. Generic: no program, no condition. -/
namespace Go.Proofs.YtmlmdljnfokebaaGreatDoor
open Go.RowKit Go.Maps

theorem map_erase {α β : Type} (f : α → β) : ∀ (l : List α) (i : Nat), (l.eraseIdx i).map f = (l.map f).eraseIdx i
  | [], _ => rfl
  | _ :: _, 0 => rfl
  | x :: l, i + 1 => by simp [map_erase f l i]
section
variable {α : Type} {P : Program} {k t e : TypeId} {enc : α → Value} {w w1 : World} {b : Nat} {l : List (α × Value)}
variable [DecidableEq α]
theorem adel_none {β : Type} {l : List (α × β)} {a : α} (h : ∀ p ∈ l, p.1 ≠ a) : adel l a = l := List.filter_eq_self.2 fun p hp => by simp [h p hp]
theorem adel_at {β : Type} : ∀ {l : List (α × β)} {a : α} {v : β} {j : Nat}, (l.Pairwise fun p q => p.1 ≠ q.1) → l[j]? = some (a, v) → adel l a = l.eraseIdx j
  | [], a, v, j, _, h => by simp at h
  | (x, u) :: l, a, v, 0, hd, h => by
    simp at h
    obtain ⟨rfl, rfl⟩ := h
    have := adel_none (fun p hp => fun e => (List.pairwise_cons.1 hd).1 p hp e.symm)
    unfold adel at this ⊢
    rw [List.filter_cons, if_neg (by simp), this]; rfl
  | (x, u) :: l, a, v, j + 1, hd, h => by
    have h' : l[j]? = some (a, v) := by simpa using h
    have hne : x ≠ a := (List.pairwise_cons.1 hd).1 (a, v) (List.mem_of_getElem? h')
    have ih := adel_at (List.pairwise_cons.1 hd).2 h'
    unfold adel at ih ⊢
    rw [List.filter_cons, if_pos (by simp [hne]), ih]; rfl
theorem aget_adel {β : Type} (l : List (α × β)) (a c : α) : aget (adel l a) c = if a = c then none else aget l c := by
  induction l with
  | nil => simp [adel, aget]
  | cons p r ih =>
    obtain ⟨x, u⟩ := p
    unfold adel at ih ⊢
    rw [List.filter_cons]
    by_cases h : x = a
    · subst h
      rw [if_neg (by simp), ih]
      by_cases h2 : x = c
      · rw [if_pos h2, if_pos h2]
      · rw [if_neg h2, if_neg h2]; simp [aget, h2]
    · rw [if_pos (by simp [h])]
      unfold aget
      by_cases h2 : x = c
      · subst h2; simp [Ne.symm h]
      · simp only [h2, if_false]; exact ih
variable (hinj : ∀ x y, enc x = enc y → x = y)
include hinj
/-- An entry of a map is struck. -/
theorem MapB.del (h : MapB P k enc w b l) (K : Keyed P k) (ht : P.underlying t = some (.map k e)) {a : α} {kl : Lit} (ha : keyOf P k (enc a) = some kl) :
    ∃ w1, BltP P .delete [t, k] [.map (some b), enc a] w w1 ∧ MapB P k enc w1 b (adel l a) ∧ Kp (· = b) w w1 := by
  obtain ⟨es, c, hb, he⟩ := h.blk
  have hkp : ∀ o, Kp (· = b) w (ChangeMaps.setBlock w b o) := fun o => ⟨rfl, rfl, rfl, by simp [ChangeMaps.setBlock], fun i _ hi => ChangeMaps.heap_setBlock_other hb _ (fun e => hi (by rw [e]))⟩
  have hkeys : ∀ p ∈ adel l a, ∃ kl, keyOf P k (enc p.1) = some kl := fun p hp => h.key p (List.mem_filter.1 hp).1
  have hdis : (adel l a).Pairwise fun p q => p.1 ≠ q.1 := List.Pairwise.sublist List.filter_sublist h.dis
  rcases map_find hinj K he h.key h.dis ha (w := w) with ⟨h1, h2⟩ | ⟨j, x, u, h1, h2, h3, h4, h5⟩
  · refine ⟨ChangeMaps.setBlock w b (.map es c), ⟨fun ty cs => ?_⟩, ⟨⟨_, _, ChangeMaps.heap_setBlock_same hb _, ?_⟩, hkeys, hdis, fun es' c' h' => by rw [ChangeMaps.heap_setBlock_same hb] at h'; cases h'; exact h.brn es c hb⟩, hkp _⟩
    · simp [builtin, Builtin.delete_, run_underlying ht, MapKept.run_getObj_map hb, K.check w _ ha, h2, MapKept.run_setObj_map _ hb, Result.andThen, ChangeMaps.setBlock]
    · rw [adel_none (aget_none.1 h1), he]
  · refine ⟨ChangeMaps.setBlock w b (.map (es.eraseIdxIfInBounds j) c), ⟨fun ty cs => ?_⟩, ⟨⟨_, _, ChangeMaps.heap_setBlock_same hb _, ?_⟩, hkeys, hdis, fun es' c' h' => by
      rw [ChangeMaps.heap_setBlock_same hb] at h'
      cases h'
      have h6 := h.brn es c hb
      have hs : List.Sublist (es.eraseIdxIfInBounds j).toList es.toList := by rw [Array.toList_eraseIdxIfInBounds]; exact List.eraseIdx_sublist _ _
      exact ⟨h6.1.sublist (hs.map _), fun x hx => h6.2 x (hs.subset hx)⟩⟩, hkp _⟩
    · simp [builtin, Builtin.delete_, run_underlying ht, MapKept.run_getObj_map hb, K.check w _ ha, h2, MapKept.run_setObj_map _ hb, Result.andThen, ChangeMaps.setBlock]
    · rw [adel_at h.dis h3]
      rw [map_erase, ← he, ← map_erase]
      simp
end

/-! ### The end of a row is cleared -/
theorem putL_len : ∀ (vs c : List Value) (o : Nat), (putL c o vs).length = c.length
  | [], c, o => rfl
  | v :: r, c, o => by simp only [putL]; rw [putL_len r]; simp
theorem putL_take : ∀ (vs c : List Value) (o k : Nat), k ≤ o → (putL c o vs).take k = c.take k
  | [], c, o, k, _ => rfl
  | v :: r, c, o, k, h => by
    simp only [putL]
    rw [putL_take r _ (o + 1) k (by omega)]
    apply List.ext_getElem?
    intro i
    rw [List.getElem?_take, List.getElem?_take]
    split
    · rw [List.getElem?_set]
      rw [if_neg (by omega)]
    · rfl
theorem oneB_all : ∀ l : List Value, (∀ v ∈ l, v.oneCell' = true) → oneB l = true
  | [], _ => rfl
  | v :: r, h => by
    have h1 := h v (by simp)
    have h2 := oneB_all r (fun u hu => h u (by simp [hu]))
    cases v <;> first | exact h2 | (simp [Value.oneCell'] at h1)
theorem zeroCells_mem {z : Array Value} {n : Nat} {v : Value} (h : v ∈ (Builtin.zeroCells z n).toList) : v ∈ z.toList := by
  unfold Builtin.zeroCells at h
  rw [Array.toList_map, List.mem_map] at h
  obtain ⟨i, hi, rfl⟩ := h
  have hi : i < n * z.size := by simpa using hi
  have hz : 0 < z.size := by
    rcases Nat.eq_zero_or_pos z.size with h0 | h0
    · rw [h0] at hi; omega
    · exact h0
  have : i % z.size < z.size := Nat.mod_lt _ hz
  rw [getElem!_pos z _ this]
  simp
theorem zeroCells_len {z : Array Value} {n : Nat} : (Builtin.zeroCells z n).toList.length = n * z.size := by simp [Builtin.zeroCells]
theorem clear_row {P : Program} {w : World} {t e T : TypeId} (ht : P.underlying t = some (.slice e)) {z : Value} (hz : ∀ w, (zeroValue e).run P w = .ok z w) {b o m c : Nat} {cells : Array Value} (hb : w.heap[b]? = some (.cells cells T (0, 0)))
    (hm : 0 < m) (hl : o + m * z.cells.size ≤ cells.size) (h1 : ∀ v ∈ z.cells.toList, v.oneCell' = true) :
    ∃ w1, BltP P .clear [t] [.slice (some ⟨b, o, none⟩) m c] w w1 ∧ Kp (· = b) w w1 ∧ w1.heap[b]? = some (.cells (putL cells.toList o (Builtin.zeroCells z.cells m).toList).toArray T (0, 0)) := by
  have hst := run_storeCells_w (P := P) (b := b) (o := o) (Builtin.zeroCells z.cells m).toList 0 w (oneB_all _ fun v hv => h1 v (zeroCells_mem hv)) (fun j hj => by
    rw [zeroCells_len] at hj
    exact cell_wr hb (by omega))
  refine ⟨wset w b o (Builtin.zeroCells z.cells m).toList, ⟨fun ty cs => ?_⟩, wset_kp _ _ _, wset_block _ _ _ _ hb⟩
  obtain ⟨m, rfl⟩ : ∃ k, m = k + 1 := ⟨m - 1, by omega⟩
  rw [Nat.add_zero] at hst
  simp [builtin, Builtin.clear_, run_underlying ht, hz, hst, Result.andThen]
/-- The front of a row is a row. -/
theorem own_pre {w : World} {base : Nat} {e : TypeId} {L n c m : Nat} {p : Option Addr} {xs : List Value} (h : w.ownsRow base e L (.slice p n c) n xs) (hm : m ≤ n) (hn : 0 < n) : w.ownsRow base e L (.slice p m c) m (xs.take (m * L)) := by
  have hl := h.1
  refine ⟨by rw [List.length_take, hl]; exact Nat.min_eq_left (Nat.mul_le_mul_right _ hm), ?_⟩
  rcases h.2 with ⟨_, h0⟩ | ⟨g, cap, cur, hv, hb, hg, h4, h5, h6, h7⟩
  · omega
  · simp only [Value.slice.injEq, true_and] at hv
    obtain ⟨rfl, rfl⟩ := hv
    refine .inr ⟨g, c, cur, rfl, hb, hg, by omega, h5, h6, ?_⟩
    rw [← h7, List.take_take, Nat.min_eq_left (Nat.mul_le_mul_right _ hm)]
/-- What lies behind a row is written. -/
theorem own_tail {w w1 : World} {base : Nat} {e : TypeId} {L n c g o : Nat} {xs vs : List Value} (h : w.ownsRow base e L (.slice (some ⟨g, 0, none⟩) n c) n xs) {cells : Array Value} (hg : w.heap[g]? = some (.cells cells e (0, 0))) (ho : n * L ≤ o) (hw : w1.heap[g]? = some (.cells (putL cells.toList o vs).toArray e (0, 0))) :
    w1.ownsRow base e L (.slice (some ⟨g, 0, none⟩) n c) n xs := by
  refine ⟨h.1, ?_⟩
  rcases h.2 with ⟨hv, _⟩ | ⟨g', cap, cur, hv, hb, hg', h4, h5, h6, h7⟩
  · simp at hv
  · simp only [Value.slice.injEq, true_and, Option.some.injEq, Addr.mk.injEq, and_true] at hv
    obtain ⟨rfl, rfl⟩ := hv
    rw [hg] at hg'
    simp only [Option.some.injEq, Obj.cells.injEq, and_true] at hg'
    subst hg'
    refine .inr ⟨g, c, _, rfl, hb, hw, h4, h5, ?_, ?_⟩
    · simp [putL_len, h6]
    · show (putL cells.toList o vs).take (n * L) = xs
      rw [putL_take _ _ _ _ ho, h7]
theorem erase_flat {α : Type} (f : α → List Value) (L : Nat) (l : List α) (i : Nat) (hl : ∀ y, (f y).length = L) : (l.flatMap f).take (i * L) ++ (l.flatMap f).drop ((i + 1) * L) = (l.eraseIdx i).flatMap f := by
  rw [take_flat f L l i (fun y _ => hl y), drop_flat f L l (i + 1) (fun y _ => hl y), ← List.flatMap_append, List.eraseIdx_eq_take_drop_succ]
end Go.Proofs.YtmlmdljnfokebaaGreatDoor

/- The formulas of functions by the symbolic evaluator, and that each gives the call's contract. Written by a program (gen.py). No condition. -/
namespace Go.Proofs.YtmlmdljnfokebaaGreatDoor
set_option maxRecDepth 100000
set_option linter.unusedVariables false

def VC_mbounce (fu : ByteArray) (fs : ByteArray) (tu : ByteArray) (ts : ByteArray) (n : Int) (d : Int) (sj : ByteArray) (hp : Option Addr) (hn : Nat) (hc : Nat) (bd : ByteArray) (s : ByteArray) (x : Int) (now : Int) (w : World) (R : Ending → World → Prop) : Prop :=
 ∀ (n_1 n_2 : Nat) (W : World),
 Loc w.heap.size
 [Blk.mk n_2 26
 [Value.string (ByteArray.mk #[]), Value.string (ByteArray.mk #[]), Value.string (ByteArray.mk #[]),
 Value.string (ByteArray.mk #[]), Value.int IntKind.i64 0, Value.int IntKind.i64 0,
 Value.string (ByteArray.mk #[]), Value.slice none 0 0, Value.string (ByteArray.mk #[])]
 2,
 Blk.mk n_1 26
 [Value.string fu, Value.string fs, Value.string tu, Value.string ts, Value.int IntKind.i64 n,
 Value.int IntKind.i64 d, Value.string sj, Value.slice hp hn hc, Value.string bd]
 2]
 w W →
 bsp (!fu.toList == [])
 (CallsS Tryz.prog 38
 #[Value.agg
 #[Value.string fu, Value.string fs, Value.string tu, Value.string ts, Value.int IntKind.i64 n,
 Value.int IntKind.i64 d, Value.string sj, Value.slice hp hn hc, Value.string bd]]
 W fun (e : Ending) (w' : World) =>
 ∃ (x_1 : Int),
 e = Ending.returned (Value.int IntKind.i64 x_1) ∧
 KeptL [n_2, n_1] W w' ∧
 bsp (false || x_1 != 0 || !minB now)
 (∀ (W : World),
 Loc w.heap.size
 [Blk.mk n_2 26
 [Value.string (ByteArray.mk #[]), Value.string (ByteArray.mk #[]), Value.string (ByteArray.mk #[]),
 Value.string (ByteArray.mk #[]), Value.int IntKind.i64 0, Value.int IntKind.i64 0,
 Value.string (ByteArray.mk #[]), Value.slice none 0 0, Value.string (ByteArray.mk #[])]
 (wrM 0),
 Blk.mk n_1 26
 [Value.string fu, Value.string fs, Value.string tu, Value.string ts, Value.int IntKind.i64 n,
 Value.int IntKind.i64 d, Value.string sj, Value.slice hp hn hc, Value.string bd]
 0]
 w' W →
 R
 (Ending.returned
 (Value.tuple
 #[Value.agg
 #[Value.string (ByteArray.mk #[]), Value.string (ByteArray.mk #[]), Value.string (ByteArray.mk #[]),
 Value.string (ByteArray.mk #[]), Value.int IntKind.i64 0, Value.int IntKind.i64 0,
 Value.string (ByteArray.mk #[]), Value.slice none 0 0, Value.string (ByteArray.mk #[])],
 Value.bool false]))
 W)
 (CallsS Tryz.prog 49 #[Value.string s] w' fun (e : Ending) (w'_1 : World) =>
 ∃ (x_2 : Int),
 ∃ (x_3 : Int),
 e = Ending.returned (Value.tuple #[Value.int IntKind.i64 x_2, Value.int IntKind.i64 x_3]) ∧
 KeptL [n_2, n_1] w' w'_1 ∧
 bsp (x_3 != 0)
 (∀ (W : World),
 Loc w.heap.size
 [Blk.mk n_2 26
 [Value.string (ByteArray.mk #[]), Value.string (ByteArray.mk #[]), Value.string (ByteArray.mk #[]),
 Value.string (ByteArray.mk #[]), Value.int IntKind.i64 0, Value.int IntKind.i64 0,
 Value.string (ByteArray.mk #[]), Value.slice none 0 0, Value.string (ByteArray.mk #[])]
 (wrM 0),
 Blk.mk n_1 26
 [Value.string fu, Value.string fs, Value.string tu, Value.string ts, Value.int IntKind.i64 n,
 Value.int IntKind.i64 d, Value.string sj, Value.slice hp hn hc, Value.string bd]
 0]
 w'_1 W →
 R
 (Ending.returned
 (Value.tuple
 #[Value.agg
 #[Value.string (ByteArray.mk #[]), Value.string (ByteArray.mk #[]),
 Value.string (ByteArray.mk #[]), Value.string (ByteArray.mk #[]), Value.int IntKind.i64 0,
 Value.int IntKind.i64 0, Value.string (ByteArray.mk #[]), Value.slice none 0 0,
 Value.string (ByteArray.mk #[])],
 Value.bool false]))
 W)
 (∀ (W : World),
 Loc w.heap.size
 [Blk.mk n_2 26
 [Value.string (ByteArray.mk #[]), Value.string (ByteArray.mk #[]), Value.string (ByteArray.mk #[]),
 Value.string (ByteArray.mk #[]), Value.int IntKind.i64 0, Value.int IntKind.i64 0,
 Value.string (ByteArray.mk #[]), Value.slice none 0 0, Value.string (ByteArray.mk #[])]
 0,
 Blk.mk n_1 26
 [Value.string fu, Value.string fs, Value.string tu, Value.string ts, Value.int IntKind.i64 n,
 Value.int IntKind.i64 d, Value.string sj, Value.slice hp hn hc, Value.string bd]
 0]
 w'_1 W →
 ∃ (S : World → Prop),
 S W ∧
 ∃ (x_4 : ByteArray),
 ∃ (x_5 : ByteArray),
 (∀ (w' : World), S w' → AtL w' n_1 0 [Value.string x_4, Value.string x_5]) ∧
 ∃ (x_6 : Int),
 (∀ (w' : World), S w' → w'.cell? (Addr.mk n_1 (0 + 4) none) = some (Value.int IntKind.i64 x_6)) ∧
 ∃ (x_7 : ByteArray),
 ∃ (x_8 : ByteArray),
 (∀ (w' : World), S w' → AtL w' n_1 (0 + 2) [Value.string x_7, Value.string x_8]) ∧
 ∃ (x_9 : ByteArray),
 (∀ (w' : World), S w' → w'.cell? (Addr.mk n_1 (0 + 6) none) = some (Value.string x_9)) ∧
 CallsS Tryz.prog 40 #[Value.agg #[Value.string x_7, Value.string x_8]] W
 fun (e : Ending) (w' : World) =>
 ∃ (x_10 : ByteArray),
 e = Ending.returned (Value.string x_10) ∧
 S w' ∧
 (9223372036854775807 - (↑(x_10.size + (ByteArray.mk #[32]).size) : Int)).NonNeg ∧
 CallsS Tryz.prog 41 #[Value.int IntKind.i64 x] w' fun (e : Ending) (w' : World) =>
 ∃ (x : ByteArray),
 e = Ending.returned (Value.string x) ∧
 S w' ∧
 (9223372036854775807 -
 (↑((x_10 ++ ByteArray.mk #[32]).size + x.size) : Int)).NonNeg ∧
 (9223372036854775807 -
 (↑((x_10 ++ ByteArray.mk #[32] ++ x).size + (ByteArray.mk #[10]).size) :
 Int)).NonNeg ∧
 (9223372036854775807 -
 (↑((x_10 ++ ByteArray.mk #[32] ++ x ++ ByteArray.mk #[10]).size + x_9.size) :
 Int)).NonNeg ∧
 (9223372036854775807 -
 (↑((x_10 ++ ByteArray.mk #[32] ++ x ++ ByteArray.mk #[10] ++ x_9).size +
 (ByteArray.mk #[10]).size) :
 Int)).NonNeg ∧
 WrL w' n_2 0 9 ∧
 ∀ (w1 : World),
 PutB w' n_2 0
 [Value.string (ByteArray.mk #[]), Value.string s, Value.string x_4,
 Value.string x_5, Value.int IntKind.i64 x_6, Value.int IntKind.i64 now,
 Value.string
 (ByteArray.mk
 #[78, 111, 116, 32, 100, 101, 108, 105, 118, 101, 114, 101, 100]),
 Value.slice none 0 0,
 Value.string
 (x_10 ++ ByteArray.mk #[32] ++ x ++ ByteArray.mk #[10] ++ x_9 ++
 ByteArray.mk #[10])]
 w1 →
 KeptL [n_1] W w1 ∧
 ∃ (x : ByteArray),
 ∃ (x_11 : ByteArray),
 ∃ (x_12 : ByteArray),
 ∃ (x_13 : ByteArray),
 ∃ (x_14 : Int),
 ∃ (x_15 : Int),
 ∃ (x_16 : ByteArray),
 ∃ (p : Option Addr),
 ∃ (n : Nat),
 ∃ (c : Nat),
 ∃ (x_17 : ByteArray),
 AtL w1 n_2 0
 [Value.string x, Value.string x_11, Value.string x_12,
 Value.string x_13, Value.int IntKind.i64 x_14,
 Value.int IntKind.i64 x_15, Value.string x_16,
 Value.slice p n c, Value.string x_17] ∧
 R
 (Ending.returned
 (Value.tuple
 #[Value.agg
 #[Value.string x, Value.string x_11, Value.string x_12,
 Value.string x_13, Value.int IntKind.i64 x_14,
 Value.int IntKind.i64 x_15, Value.string x_16,
 Value.slice p n c, Value.string x_17],
 Value.bool true]))
 w1)))
 (KeptL [n_2, n_1] W W ∧
 ∀ (W_1 : World),
 Loc w.heap.size
 [Blk.mk n_2 26
 [Value.string (ByteArray.mk #[]), Value.string (ByteArray.mk #[]), Value.string (ByteArray.mk #[]),
 Value.string (ByteArray.mk #[]), Value.int IntKind.i64 0, Value.int IntKind.i64 0,
 Value.string (ByteArray.mk #[]), Value.slice none 0 0, Value.string (ByteArray.mk #[])]
 (wrM 0),
 Blk.mk n_1 26
 [Value.string fu, Value.string fs, Value.string tu, Value.string ts, Value.int IntKind.i64 n,
 Value.int IntKind.i64 d, Value.string sj, Value.slice hp hn hc, Value.string bd]
 0]
 W W_1 →
 R
 (Ending.returned
 (Value.tuple
 #[Value.agg
 #[Value.string (ByteArray.mk #[]), Value.string (ByteArray.mk #[]), Value.string (ByteArray.mk #[]),
 Value.string (ByteArray.mk #[]), Value.int IntKind.i64 0, Value.int IntKind.i64 0,
 Value.string (ByteArray.mk #[]), Value.slice none 0 0, Value.string (ByteArray.mk #[])],
 Value.bool false]))
 W_1)
theorem vc_mbounce (fu : ByteArray) (fs : ByteArray) (tu : ByteArray) (ts : ByteArray) (n : Int) (d : Int) (sj : ByteArray) (hp : Option Addr) (hn : Nat) (hc : Nat) (bd : ByteArray) (s : ByteArray) (x : Int) (now : Int) (w : World) (R : Ending → World → Prop) (h : VC_mbounce fu fs tu ts n d sj hp hn hc bd s x now w R) : Calls Tryz.prog 52 ([Value.agg
    #[Value.string fu, Value.string fs, Value.string tu, Value.string ts, Value.int IntKind.i64 n,
      Value.int IntKind.i64 d, Value.string sj, Value.slice hp hn hc, Value.string bd],
  Value.string s, Value.int IntKind.i64 x, Value.int IntKind.i64 now] : List Value).toArray w R := by
  have e : execR2 { P := Tryz.prog, loops := [], pur := purM, tails := [(6, 9)], joins := [], boxes := [] } Tryz.f52.results.toList R (Tryz.f52.body.getD .skip) (initF [Value.agg
    #[Value.string fu, Value.string fs, Value.string tu, Value.string ts, Value.int IntKind.i64 n,
      Value.int IntKind.i64 d, Value.string sj, Value.slice hp hn hc, Value.string bd],
  Value.string s, Value.int IntKind.i64 x,
  Value.int IntKind.i64
    now] (Tryz.f52.ntmps - ([Value.agg
    #[Value.string fu, Value.string fs, Value.string tu, Value.string ts, Value.int IntKind.i64 n,
      Value.int IntKind.i64 d, Value.string sj, Value.slice hp hn hc, Value.string bd],
  Value.string s, Value.int IntKind.i64 x,
  Value.int IntKind.i64
    now] : List Value).length)) w = VC_mbounce fu fs tu ts n d sj hp hn hc bd s x now w R := by kernel_rfl
  have hb : Tryz.f52.body = some (Tryz.f52.body.getD .skip) := by kernel_rfl
  exact calls_of_exec2' (P := Tryz.prog) (fn := Tryz.f52) (c := Tryz.f52.body.getD .skip) (args := [Value.agg
    #[Value.string fu, Value.string fs, Value.string tu, Value.string ts, Value.int IntKind.i64 n,
      Value.int IntKind.i64 d, Value.string sj, Value.slice hp hn hc, Value.string bd],
  Value.string s, Value.int IntKind.i64 x, Value.int IntKind.i64 now]) (w := w) (R := R) purM_ok Tryz.func52 hb e h

def VC_newq (s : ByteArray) (w : World) (R : Ending → World → Prop) : Prop :=
 CallsS Tryz.prog 49 #[Value.string s] w fun (e : Ending) (w' : World) =>
 ∃ (x : Int),
 ∃ (x_1 : Int),
 e = Ending.returned (Value.tuple #[Value.int IntKind.i64 x, Value.int IntKind.i64 x_1]) ∧
 KeptL [] w w' ∧
 bsp (x_1 != 0) (R (Ending.returned (Value.tuple #[Value.pointer none, Value.int IntKind.i64 x_1])) w')
 (∀ (n : Nat) (w1 : World),
 NewB w' (Obj.map #[] 0) n w1 →
 KeptL [] w' w1 ∧
 ∀ (n_1 : Nat) (W : World),
 Loc w.heap.size [Blk.mk n_1 106 [Value.string s, Value.int IntKind.i64 0, Value.map (some n)] 2] w1 W →
 R (Ending.returned (Value.tuple #[Value.pointer (some (Addr.mk n_1 0 none)), Value.int IntKind.i64 0])) W)
theorem vc_newq (s : ByteArray) (w : World) (R : Ending → World → Prop) (h : VC_newq s w R) : Calls Tryz.prog 17 ([Value.string
    s] : List Value).toArray w R := by
  have e : execR2 { P := Tryz.prog, loops := [], pur := purM, tails := [], joins := [], boxes := [] } Tryz.f17.results.toList R (Tryz.f17.body.getD .skip) (initF [Value.string
    s] (Tryz.f17.ntmps - ([Value.string s] : List Value).length)) w = VC_newq s w R := by kernel_rfl
  have hb : Tryz.f17.body = some (Tryz.f17.body.getD .skip) := by kernel_rfl
  exact calls_of_exec2' (P := Tryz.prog) (fn := Tryz.f17) (c := Tryz.f17.body.getD .skip) (args := [Value.string
    s]) (w := w) (R := R) purM_ok Tryz.func17 hb e h

def VC_qadd (b : Nat) (o : Nat) (fu : ByteArray) (fs : ByteArray) (tu : ByteArray) (ts : ByteArray) (n : Int) (d : Int) (sj : ByteArray) (hp : Option Addr) (hn : Nat) (hc : Nat) (bd : ByteArray) (now : Int) (w : World) (R : Ending → World → Prop) : Prop :=
 ∀ (n_1 : Nat) (W : World),
 Loc w.heap.size
 [Blk.mk n_1 26
 [Value.string fu, Value.string fs, Value.string tu, Value.string ts, Value.int IntKind.i64 n,
 Value.int IntKind.i64 d, Value.string sj, Value.slice hp hn hc, Value.string bd]
 2]
 w W →
 CallsS Tryz.prog 38
 #[Value.agg
 #[Value.string fu, Value.string fs, Value.string tu, Value.string ts, Value.int IntKind.i64 n,
 Value.int IntKind.i64 d, Value.string sj, Value.slice hp hn hc, Value.string bd]]
 W fun (e : Ending) (w' : World) =>
 ∃ (x : Int),
 e = Ending.returned (Value.int IntKind.i64 x) ∧
 KeptL [n_1] W w' ∧
 bsp (x != 0) (R (Ending.returned (Value.tuple #[Value.int IntKind.i64 0, Value.int IntKind.i64 x])) w')
 (bsp (!minB now) (R (Ending.returned (Value.tuple #[Value.int IntKind.i64 0, Value.int IntKind.i64 13])) w')
 (∃ (x : Option Nat),
 w'.cell? (Addr.mk b (o + 2) none) = some (Value.map x) ∧
 ∃ (n_2 : Int),
 LenP Tryz.prog 104 (Value.map x) n_2 w' ∧
 bsp (decide (n_2 ≥ 1024))
 (R (Ending.returned (Value.tuple #[Value.int IntKind.i64 0, Value.int IntKind.i64 9])) w')
 (CallsS Tryz.prog 51
 #[Value.pointer (some (Addr.mk b o none)),
 Value.agg
 #[Value.string fu, Value.string fs, Value.string tu, Value.string ts, Value.int IntKind.i64 n,
 Value.int IntKind.i64 d, Value.string sj, Value.slice hp hn hc, Value.string bd],
 Value.int IntKind.i64 now]
 w' fun (e : Ending) (w'_1 : World) =>
 ∃ (x : Int),
 e = Ending.returned (Value.int IntKind.i64 x) ∧
 KeptL [n_1] w' w'_1 ∧
 R (Ending.returned (Value.tuple #[Value.int IntKind.i64 x, Value.int IntKind.i64 0])) w'_1)))
theorem vc_qadd (b : Nat) (o : Nat) (fu : ByteArray) (fs : ByteArray) (tu : ByteArray) (ts : ByteArray) (n : Int) (d : Int) (sj : ByteArray) (hp : Option Addr) (hn : Nat) (hc : Nat) (bd : ByteArray) (now : Int) (w : World) (R : Ending → World → Prop) (h : VC_qadd b o fu fs tu ts n d sj hp hn hc bd now w R) : Calls Tryz.prog 18 ([Value.pointer
    (some { block := b, off := o }),
  Value.agg
    #[Value.string fu, Value.string fs, Value.string tu, Value.string ts, Value.int IntKind.i64 n,
      Value.int IntKind.i64 d, Value.string sj, Value.slice hp hn hc, Value.string bd],
  Value.int IntKind.i64 now] : List Value).toArray w R := by
  have e : execR2 { P := Tryz.prog, loops := [], pur := purM, tails := [], joins := [], boxes := [] } Tryz.f18.results.toList R (Tryz.f18.body.getD .skip) (initF [Value.pointer
    (some { block := b, off := o }),
  Value.agg
    #[Value.string fu, Value.string fs, Value.string tu, Value.string ts, Value.int IntKind.i64 n,
      Value.int IntKind.i64 d, Value.string sj, Value.slice hp hn hc, Value.string bd],
  Value.int IntKind.i64
    now] (Tryz.f18.ntmps - ([Value.pointer (some { block := b, off := o }),
  Value.agg
    #[Value.string fu, Value.string fs, Value.string tu, Value.string ts, Value.int IntKind.i64 n,
      Value.int IntKind.i64 d, Value.string sj, Value.slice hp hn hc, Value.string bd],
  Value.int IntKind.i64
    now] : List Value).length)) w = VC_qadd b o fu fs tu ts n d sj hp hn hc bd now w R := by kernel_rfl
  have hb : Tryz.f18.body = some (Tryz.f18.body.getD .skip) := by kernel_rfl
  exact calls_of_exec2' (P := Tryz.prog) (fn := Tryz.f18) (c := Tryz.f18.body.getD .skip) (args := [Value.pointer
    (some { block := b, off := o }),
  Value.agg
    #[Value.string fu, Value.string fs, Value.string tu, Value.string ts, Value.int IntKind.i64 n,
      Value.int IntKind.i64 d, Value.string sj, Value.slice hp hn hc, Value.string bd],
  Value.int IntKind.i64 now]) (w := w) (R := R) purM_ok Tryz.func18 hb e h

def VC_qapp (b : Nat) (o : Nat) (fu : ByteArray) (fs : ByteArray) (tu : ByteArray) (ts : ByteArray) (n : Int) (d : Int) (sj : ByteArray) (hp : Option Addr) (hn : Nat) (hc : Nat) (bd : ByteArray) (now : Int) (w : World) (R : Ending → World → Prop) : Prop :=
 ∀ (n_1 : Nat),
 ∃ (x : Option Nat),
 (∀ (W : World),
 Loc w.heap.size
 [Blk.mk n_1 26
 [Value.string fu, Value.string fs, Value.string tu, Value.string ts, Value.int IntKind.i64 n,
 Value.int IntKind.i64 d, Value.string sj, Value.slice hp hn hc, Value.string bd]
 2]
 w W →
 W.cell? (Addr.mk b (o + 2) none) = some (Value.map x)) ∧
 bsp x.isNone
 (∀ (W : World),
 Loc w.heap.size
 [Blk.mk n_1 26
 [Value.string fu, Value.string fs, Value.string tu, Value.string ts, Value.int IntKind.i64 n,
 Value.int IntKind.i64 d, Value.string sj, Value.slice hp hn hc, Value.string bd]
 2]
 w W →
 ∀ (n_2 : Nat) (w1 : World),
 NewB W (Obj.map #[] 0) n_2 w1 →
 KeptL [n_1] W w1 ∧
 ((∃ (u : Value), w1.cell? (Addr.mk b (o + 2) none) = some u) ∧ w1.frozen? (Addr.mk b (o + 2) none) = false) ∧
 ∀ (w1_1 : World),
 PutB w1 b (o + 2) [Value.map (some n_2)] w1_1 →
 KeptL [n_1] w1 w1_1 ∧
 ∃ (x : Int),
 w1_1.cell? (Addr.mk b (o + 1) none) = some (Value.int IntKind.i64 x) ∧
 ((∃ (u : Value), w1_1.cell? (Addr.mk b (o + 1) none) = some u) ∧
 w1_1.frozen? (Addr.mk b (o + 1) none) = false) ∧
 ∀ (w1 : World),
 PutB w1_1 b (o + 1) [Value.int IntKind.i64 (IntKind.i64.wrap (x + 1))] w1 →
 KeptL [n_1] w1_1 w1 ∧
 ∀ (W : World),
 Loc w.heap.size
 [Blk.mk n_1 26
 [Value.string fu, Value.string fs, Value.string tu, Value.string ts, Value.int IntKind.i64 n,
 Value.int IntKind.i64 d, Value.string sj, Value.slice hp hn hc, Value.string bd]
 0]
 w1 W →
 ∃ (S : World → Prop),
 S W ∧
 ∃ (x : Option Nat),
 (∀ (w' : World), S w' → w'.cell? (Addr.mk b (o + 2) none) = some (Value.map x)) ∧
 ∃ (x_1 : Int),
 (∀ (w' : World),
 S w' → w'.cell? (Addr.mk b (o + 1) none) = some (Value.int IntKind.i64 x_1)) ∧
 ∃ (x_2 : ByteArray),
 ∃ (x_3 : ByteArray),
 ∃ (x_4 : ByteArray),
 ∃ (x_5 : ByteArray),
 ∃ (x_6 : Int),
 ∃ (x_7 : Int),
 ∃ (x_8 : ByteArray),
 ∃ (p : Option Addr),
 ∃ (n : Nat),
 ∃ (c : Nat),
 ∃ (x_9 : ByteArray),
 (∀ (w' : World),
 S w' →
 AtL w' n_1 0
 [Value.string x_2, Value.string x_3, Value.string x_4, Value.string x_5,
 Value.int IntKind.i64 x_6, Value.int IntKind.i64 x_7, Value.string x_8,
 Value.slice p n c, Value.string x_9]) ∧
 CallsS Tryz.prog 53
 #[Value.agg
 #[Value.string x_2, Value.string x_3, Value.string x_4, Value.string x_5,
 Value.int IntKind.i64 x_6, Value.int IntKind.i64 x_7, Value.string x_8,
 Value.slice p n c, Value.string x_9]]
 W fun (e : Ending) (w' : World) =>
 ∃ (x_10 : ByteArray),
 ∃ (x_11 : ByteArray),
 ∃ (x_12 : ByteArray),
 ∃ (x_13 : ByteArray),
 ∃ (x_14 : Int),
 ∃ (x_15 : Int),
 ∃ (x_16 : ByteArray),
 ∃ (p : Option Addr),
 ∃ (n : Nat),
 ∃ (c : Nat),
 ∃ (x_17 : ByteArray),
 e =
 Ending.returned
 (Value.agg
 #[Value.string x_10, Value.string x_11, Value.string x_12,
 Value.string x_13, Value.int IntKind.i64 x_14,
 Value.int IntKind.i64 x_15, Value.string x_16,
 Value.slice p n c, Value.string x_17]) ∧
 S w' ∧
 ∃ (w1 : World),
 UpdP Tryz.prog 104 (Value.map x) (Value.int IntKind.i64 x_1)
 (Value.agg
 #[Value.string x_10, Value.string x_11, Value.string x_12,
 Value.string x_13, Value.int IntKind.i64 x_14,
 Value.int IntKind.i64 x_15, Value.string x_16,
 Value.slice p n c, Value.string x_17, Value.int IntKind.i64 0,
 Value.int IntKind.i64 now])
 w' w1 ∧
 KeptL [n_1] W w1 ∧
 ∃ (x : Int),
 w1.cell? (Addr.mk b (o + 1) none) =
 some (Value.int IntKind.i64 x) ∧
 R (Ending.returned (Value.int IntKind.i64 x)) w1)
 (∃ (x : Int),
 (∀ (W : World),
 Loc w.heap.size
 [Blk.mk n_1 26
 [Value.string fu, Value.string fs, Value.string tu, Value.string ts, Value.int IntKind.i64 n,
 Value.int IntKind.i64 d, Value.string sj, Value.slice hp hn hc, Value.string bd]
 2]
 w W →
 W.cell? (Addr.mk b (o + 1) none) = some (Value.int IntKind.i64 x)) ∧
 ∀ (W : World),
 Loc w.heap.size
 [Blk.mk n_1 26
 [Value.string fu, Value.string fs, Value.string tu, Value.string ts, Value.int IntKind.i64 n,
 Value.int IntKind.i64 d, Value.string sj, Value.slice hp hn hc, Value.string bd]
 2]
 w W →
 ((∃ (u : Value), W.cell? (Addr.mk b (o + 1) none) = some u) ∧ W.frozen? (Addr.mk b (o + 1) none) = false) ∧
 ∀ (w1 : World),
 PutB W b (o + 1) [Value.int IntKind.i64 (IntKind.i64.wrap (x + 1))] w1 →
 KeptL [n_1] W w1 ∧
 ∀ (W : World),
 Loc w.heap.size
 [Blk.mk n_1 26
 [Value.string fu, Value.string fs, Value.string tu, Value.string ts, Value.int IntKind.i64 n,
 Value.int IntKind.i64 d, Value.string sj, Value.slice hp hn hc, Value.string bd]
 0]
 w1 W →
 ∃ (S : World → Prop),
 S W ∧
 ∃ (x : Option Nat),
 (∀ (w' : World), S w' → w'.cell? (Addr.mk b (o + 2) none) = some (Value.map x)) ∧
 ∃ (x_1 : Int),
 (∀ (w' : World), S w' → w'.cell? (Addr.mk b (o + 1) none) = some (Value.int IntKind.i64 x_1)) ∧
 ∃ (x_2 : ByteArray),
 ∃ (x_3 : ByteArray),
 ∃ (x_4 : ByteArray),
 ∃ (x_5 : ByteArray),
 ∃ (x_6 : Int),
 ∃ (x_7 : Int),
 ∃ (x_8 : ByteArray),
 ∃ (p : Option Addr),
 ∃ (n : Nat),
 ∃ (c : Nat),
 ∃ (x_9 : ByteArray),
 (∀ (w' : World),
 S w' →
 AtL w' n_1 0
 [Value.string x_2, Value.string x_3, Value.string x_4, Value.string x_5,
 Value.int IntKind.i64 x_6, Value.int IntKind.i64 x_7, Value.string x_8,
 Value.slice p n c, Value.string x_9]) ∧
 CallsS Tryz.prog 53
 #[Value.agg
 #[Value.string x_2, Value.string x_3, Value.string x_4, Value.string x_5,
 Value.int IntKind.i64 x_6, Value.int IntKind.i64 x_7, Value.string x_8,
 Value.slice p n c, Value.string x_9]]
 W fun (e : Ending) (w' : World) =>
 ∃ (x_10 : ByteArray),
 ∃ (x_11 : ByteArray),
 ∃ (x_12 : ByteArray),
 ∃ (x_13 : ByteArray),
 ∃ (x_14 : Int),
 ∃ (x_15 : Int),
 ∃ (x_16 : ByteArray),
 ∃ (p : Option Addr),
 ∃ (n : Nat),
 ∃ (c : Nat),
 ∃ (x_17 : ByteArray),
 e =
 Ending.returned
 (Value.agg
 #[Value.string x_10, Value.string x_11, Value.string x_12,
 Value.string x_13, Value.int IntKind.i64 x_14,
 Value.int IntKind.i64 x_15, Value.string x_16, Value.slice p n c,
 Value.string x_17]) ∧
 S w' ∧
 ∃ (w1 : World),
 UpdP Tryz.prog 104 (Value.map x) (Value.int IntKind.i64 x_1)
 (Value.agg
 #[Value.string x_10, Value.string x_11, Value.string x_12,
 Value.string x_13, Value.int IntKind.i64 x_14,
 Value.int IntKind.i64 x_15, Value.string x_16, Value.slice p n c,
 Value.string x_17, Value.int IntKind.i64 0,
 Value.int IntKind.i64 now])
 w' w1 ∧
 KeptL [n_1] W w1 ∧
 ∃ (x : Int),
 w1.cell? (Addr.mk b (o + 1) none) = some (Value.int IntKind.i64 x) ∧
 R (Ending.returned (Value.int IntKind.i64 x)) w1)
theorem vc_qapp (b : Nat) (o : Nat) (fu : ByteArray) (fs : ByteArray) (tu : ByteArray) (ts : ByteArray) (n : Int) (d : Int) (sj : ByteArray) (hp : Option Addr) (hn : Nat) (hc : Nat) (bd : ByteArray) (now : Int) (w : World) (R : Ending → World → Prop) (h : VC_qapp b o fu fs tu ts n d sj hp hn hc bd now w R) : Calls Tryz.prog 51 ([Value.pointer
    (some { block := b, off := o }),
  Value.agg
    #[Value.string fu, Value.string fs, Value.string tu, Value.string ts, Value.int IntKind.i64 n,
      Value.int IntKind.i64 d, Value.string sj, Value.slice hp hn hc, Value.string bd],
  Value.int IntKind.i64 now] : List Value).toArray w R := by
  have e : execR2 { P := Tryz.prog, loops := [], pur := purM, tails := [(4, 9)], joins := [], boxes := [] } Tryz.f51.results.toList R (Tryz.f51.body.getD .skip) (initF [Value.pointer
    (some { block := b, off := o }),
  Value.agg
    #[Value.string fu, Value.string fs, Value.string tu, Value.string ts, Value.int IntKind.i64 n,
      Value.int IntKind.i64 d, Value.string sj, Value.slice hp hn hc, Value.string bd],
  Value.int IntKind.i64
    now] (Tryz.f51.ntmps - ([Value.pointer (some { block := b, off := o }),
  Value.agg
    #[Value.string fu, Value.string fs, Value.string tu, Value.string ts, Value.int IntKind.i64 n,
      Value.int IntKind.i64 d, Value.string sj, Value.slice hp hn hc, Value.string bd],
  Value.int IntKind.i64
    now] : List Value).length)) w = VC_qapp b o fu fs tu ts n d sj hp hn hc bd now w R := by kernel_rfl
  have hb : Tryz.f51.body = some (Tryz.f51.body.getD .skip) := by kernel_rfl
  exact calls_of_exec2' (P := Tryz.prog) (fn := Tryz.f51) (c := Tryz.f51.body.getD .skip) (args := [Value.pointer
    (some { block := b, off := o }),
  Value.agg
    #[Value.string fu, Value.string fs, Value.string tu, Value.string ts, Value.int IntKind.i64 n,
      Value.int IntKind.i64 d, Value.string sj, Value.slice hp hn hc, Value.string bd],
  Value.int IntKind.i64 now]) (w := w) (R := R) purM_ok Tryz.func51 hb e h

def VC_qget (b : Nat) (o : Nat) (x : Int) (w : World) (R : Ending → World → Prop) : Prop :=
 ∀ (n : Nat),
 ∃ (x_1 : Option Nat),
 (∀ (W : World),
 Loc w.heap.size
 [Blk.mk n 26
 [Value.string (ByteArray.mk #[]), Value.string (ByteArray.mk #[]), Value.string (ByteArray.mk #[]),
 Value.string (ByteArray.mk #[]), Value.int IntKind.i64 0, Value.int IntKind.i64 0,
 Value.string (ByteArray.mk #[]), Value.slice none 0 0, Value.string (ByteArray.mk #[])]
 2]
 w W →
 W.cell? (Addr.mk b (o + 2) none) = some (Value.map x_1)) ∧
 ∃ (x_2 : ByteArray),
 ∃ (x_3 : ByteArray),
 ∃ (x_4 : ByteArray),
 ∃ (x_5 : ByteArray),
 ∃ (x_6 : Int),
 ∃ (x_7 : Int),
 ∃ (x_8 : ByteArray),
 ∃ (p : Option Addr),
 ∃ (n_1 : Nat),
 ∃ (c : Nat),
 ∃ (x_9 : ByteArray),
 ∃ (x_10 : Int),
 ∃ (x_11 : Int),
 ∃ (b : Bool),
 (∀ (W : World),
 Loc w.heap.size
 [Blk.mk n 26
 [Value.string (ByteArray.mk #[]), Value.string (ByteArray.mk #[]),
 Value.string (ByteArray.mk #[]), Value.string (ByteArray.mk #[]), Value.int IntKind.i64 0,
 Value.int IntKind.i64 0, Value.string (ByteArray.mk #[]), Value.slice none 0 0,
 Value.string (ByteArray.mk #[])]
 2]
 w W →
 LookP Tryz.prog 104 (Value.map x_1) (Value.int IntKind.i64 x) true
 (Value.tuple
 #[Value.agg
 #[Value.string x_2, Value.string x_3, Value.string x_4, Value.string x_5,
 Value.int IntKind.i64 x_6, Value.int IntKind.i64 x_7, Value.string x_8, Value.slice p n_1 c,
 Value.string x_9, Value.int IntKind.i64 x_10, Value.int IntKind.i64 x_11],
 Value.bool b])
 W) ∧
 ∀ (n_2 : Nat),
 bsp (!b)
 (∀ (W : World),
 Loc w.heap.size
 [Blk.mk n_2 110
 [Value.string x_2, Value.string x_3, Value.string x_4, Value.string x_5,
 Value.int IntKind.i64 x_6, Value.int IntKind.i64 x_7, Value.string x_8, Value.slice p n_1 c,
 Value.string x_9, Value.int IntKind.i64 x_10, Value.int IntKind.i64 x_11]
 (wrM 2),
 Blk.mk n 26
 [Value.string (ByteArray.mk #[]), Value.string (ByteArray.mk #[]),
 Value.string (ByteArray.mk #[]), Value.string (ByteArray.mk #[]), Value.int IntKind.i64 0,
 Value.int IntKind.i64 0, Value.string (ByteArray.mk #[]), Value.slice none 0 0,
 Value.string (ByteArray.mk #[])]
 (wrM 2)]
 w W →
 R
 (Ending.returned
 (Value.tuple
 #[Value.agg
 #[Value.string (ByteArray.mk #[]), Value.string (ByteArray.mk #[]),
 Value.string (ByteArray.mk #[]), Value.string (ByteArray.mk #[]), Value.int IntKind.i64 0,
 Value.int IntKind.i64 0, Value.string (ByteArray.mk #[]), Value.slice none 0 0,
 Value.string (ByteArray.mk #[])],
 Value.int IntKind.i64 0, Value.bool false]))
 W)
 (∀ (W : World),
 Loc w.heap.size
 [Blk.mk n_2 110
 [Value.string x_2, Value.string x_3, Value.string x_4, Value.string x_5,
 Value.int IntKind.i64 x_6, Value.int IntKind.i64 x_7, Value.string x_8, Value.slice p n_1 c,
 Value.string x_9, Value.int IntKind.i64 x_10, Value.int IntKind.i64 x_11]
 (wrM 2),
 Blk.mk n 26
 [Value.string (ByteArray.mk #[]), Value.string (ByteArray.mk #[]),
 Value.string (ByteArray.mk #[]), Value.string (ByteArray.mk #[]), Value.int IntKind.i64 0,
 Value.int IntKind.i64 0, Value.string (ByteArray.mk #[]), Value.slice none 0 0,
 Value.string (ByteArray.mk #[])]
 2]
 w W →
 ∃ (S : World → Prop),
 S W ∧
 ∃ (x : ByteArray),
 ∃ (x_12 : ByteArray),
 ∃ (x_13 : ByteArray),
 ∃ (x_14 : ByteArray),
 ∃ (x_15 : Int),
 ∃ (x_16 : Int),
 ∃ (x_17 : ByteArray),
 ∃ (p : Option Addr),
 ∃ (n_3 : Nat),
 ∃ (c : Nat),
 ∃ (x_18 : ByteArray),
 (∀ (w' : World),
 S w' →
 AtL w' n_2 0
 [Value.string x, Value.string x_12, Value.string x_13, Value.string x_14,
 Value.int IntKind.i64 x_15, Value.int IntKind.i64 x_16, Value.string x_17,
 Value.slice p n_3 c, Value.string x_18]) ∧
 ∃ (x_19 : Int),
 (∀ (w' : World),
 S w' →
 w'.cell? (Addr.mk n_2 (0 + 10) none) = some (Value.int IntKind.i64 x_19)) ∧
 CallsS Tryz.prog 53
 #[Value.agg
 #[Value.string x, Value.string x_12, Value.string x_13, Value.string x_14,
 Value.int IntKind.i64 x_15, Value.int IntKind.i64 x_16, Value.string x_17,
 Value.slice p n_3 c, Value.string x_18]]
 W fun (e : Ending) (w' : World) =>
 ∃ (x : ByteArray),
 ∃ (x_20 : ByteArray),
 ∃ (x_21 : ByteArray),
 ∃ (x_22 : ByteArray),
 ∃ (x_23 : Int),
 ∃ (x_24 : Int),
 ∃ (x_25 : ByteArray),
 ∃ (p : Option Addr),
 ∃ (n_4 : Nat),
 ∃ (c : Nat),
 ∃ (x_26 : ByteArray),
 e =
 Ending.returned
 (Value.agg
 #[Value.string x, Value.string x_20, Value.string x_21,
 Value.string x_22, Value.int IntKind.i64 x_23,
 Value.int IntKind.i64 x_24, Value.string x_25,
 Value.slice p n_4 c, Value.string x_26]) ∧
 S w' ∧
 WrL w' n 0 9 ∧
 ∀ (w1 : World),
 PutB w' n 0
 [Value.string x, Value.string x_20, Value.string x_21,
 Value.string x_22, Value.int IntKind.i64 x_23,
 Value.int IntKind.i64 x_24, Value.string x_25,
 Value.slice p n_4 c, Value.string x_26]
 w1 →
 S w1 ∧
 KeptL [n_2] W w1 ∧
 ∃ (x : ByteArray),
 ∃ (x_27 : ByteArray),
 ∃ (x_28 : ByteArray),
 ∃ (x_29 : ByteArray),
 ∃ (x_30 : Int),
 ∃ (x_31 : Int),
 ∃ (x_32 : ByteArray),
 ∃ (p : Option Addr),
 ∃ (n_5 : Nat),
 ∃ (c : Nat),
 ∃ (x_33 : ByteArray),
 AtL w1 n 0
 [Value.string x, Value.string x_27,
 Value.string x_28, Value.string x_29,
 Value.int IntKind.i64 x_30,
 Value.int IntKind.i64 x_31, Value.string x_32,
 Value.slice p n_5 c, Value.string x_33] ∧
 R
 (Ending.returned
 (Value.tuple
 #[Value.agg
 #[Value.string x, Value.string x_27,
 Value.string x_28, Value.string x_29,
 Value.int IntKind.i64 x_30,
 Value.int IntKind.i64 x_31,
 Value.string x_32, Value.slice p n_5 c,
 Value.string x_33],
 Value.int IntKind.i64 x_19, Value.bool true]))
 w1)
theorem vc_qget (b : Nat) (o : Nat) (x : Int) (w : World) (R : Ending → World → Prop) (h : VC_qget b o x w R) : Calls Tryz.prog 21 ([Value.pointer
    (some { block := b, off := o }),
  Value.int IntKind.i64 x] : List Value).toArray w R := by
  have e : execR2 { P := Tryz.prog, loops := [], pur := purM, tails := [(6, 2)], joins := [], boxes := [] } Tryz.f21.results.toList R (Tryz.f21.body.getD .skip) (initF [Value.pointer
    (some { block := b, off := o }),
  Value.int IntKind.i64
    x] (Tryz.f21.ntmps - ([Value.pointer (some { block := b, off := o }),
  Value.int IntKind.i64 x] : List Value).length)) w = VC_qget b o x w R := by kernel_rfl
  have hb : Tryz.f21.body = some (Tryz.f21.body.getD .skip) := by kernel_rfl
  exact calls_of_exec2' (P := Tryz.prog) (fn := Tryz.f21) (c := Tryz.f21.body.getD .skip) (args := [Value.pointer
    (some { block := b, off := o }),
  Value.int IntKind.i64 x]) (w := w) (R := R) purM_ok Tryz.func21 hb e h

def VC_qfail (b : Nat) (o : Nat) (x : Int) (now : Int) (code : Int) (g : Bool) (w : World) (R : Ending → World → Prop) : Prop :=
 ∃ (x_1 : Option Nat),
 w.cell? (Addr.mk b (o + 2) none) = some (Value.map x_1) ∧
 ∃ (x_2 : ByteArray),
 ∃ (x_3 : ByteArray),
 ∃ (x_4 : ByteArray),
 ∃ (x_5 : ByteArray),
 ∃ (x_6 : Int),
 ∃ (x_7 : Int),
 ∃ (x_8 : ByteArray),
 ∃ (p : Option Addr),
 ∃ (n : Nat),
 ∃ (c : Nat),
 ∃ (x_9 : ByteArray),
 ∃ (x_10 : Int),
 ∃ (x_11 : Int),
 ∃ (b_1 : Bool),
 LookP Tryz.prog 104 (Value.map x_1) (Value.int IntKind.i64 x) true
 (Value.tuple
 #[Value.agg
 #[Value.string x_2, Value.string x_3, Value.string x_4, Value.string x_5,
 Value.int IntKind.i64 x_6, Value.int IntKind.i64 x_7, Value.string x_8, Value.slice p n c,
 Value.string x_9, Value.int IntKind.i64 x_10, Value.int IntKind.i64 x_11],
 Value.bool b_1])
 w ∧
 ∀ (n_1 : Nat),
 bsp (!b_1)
 (∀ (W : World),
 Loc w.heap.size
 [Blk.mk n_1 110
 [Value.string x_2, Value.string x_3, Value.string x_4, Value.string x_5,
 Value.int IntKind.i64 x_6, Value.int IntKind.i64 x_7, Value.string x_8, Value.slice p n c,
 Value.string x_9, Value.int IntKind.i64 x_10, Value.int IntKind.i64 x_11]
 (wrM 2)]
 w W →
 R
 (Ending.returned
 (Value.tuple #[Value.int IntKind.i64 0, Value.bool false, Value.int IntKind.i64 8]))
 W)
 (bsp (!minB now)
 (∀ (W : World),
 Loc w.heap.size
 [Blk.mk n_1 110
 [Value.string x_2, Value.string x_3, Value.string x_4, Value.string x_5,
 Value.int IntKind.i64 x_6, Value.int IntKind.i64 x_7, Value.string x_8, Value.slice p n c,
 Value.string x_9, Value.int IntKind.i64 x_10, Value.int IntKind.i64 x_11]
 (wrM 2)]
 w W →
 R
 (Ending.returned
 (Value.tuple #[Value.int IntKind.i64 0, Value.bool false, Value.int IntKind.i64 13]))
 W)
 (∃ (x_12 : Int),
 gimp (!g)
 (∀ (W : World),
 Loc w.heap.size
 [Blk.mk n_1 110
 [Value.string x_2, Value.string x_3, Value.string x_4, Value.string x_5,
 Value.int IntKind.i64 x_6, Value.int IntKind.i64 x_7, Value.string x_8, Value.slice p n c,
 Value.string x_9, Value.int IntKind.i64 (IntKind.i64.wrap (x_10 + 1)),
 Value.int IntKind.i64 x_11]
 (wrM (wrM 2))]
 w W →
 W.cell? (Addr.mk n_1 (0 + 9) none) = some (Value.int IntKind.i64 x_12)) ∧
 bsp (!g && decide (x_12 < 8))
 ((IntKind.i64.wrap (IntKind.i64.wrap (x_10 + 1) - 1) - 0).NonNeg ∧
 ∃ (x_13 : Option Nat),
 (∀ (W : World),
 Loc w.heap.size
 [Blk.mk n_1 110
 [Value.string x_2, Value.string x_3, Value.string x_4, Value.string x_5,
 Value.int IntKind.i64 x_6, Value.int IntKind.i64 x_7, Value.string x_8,
 Value.slice p n c, Value.string x_9,
 Value.int IntKind.i64 (IntKind.i64.wrap (x_10 + 1)),
 Value.int IntKind.i64
 (IntKind.i64.wrap
 (now +
 IntKind.i64.wrap
 (5 * 2 ^ min (IntKind.i64.wrap (IntKind.i64.wrap (x_10 + 1) - 1)).toNat 64)))]
 (wrM (wrM (wrM 2)))]
 w W →
 W.cell? (Addr.mk b (o + 2) none) = some (Value.map x_13)) ∧
 ∀ (W : World),
 Loc w.heap.size
 [Blk.mk n_1 110
 [Value.string x_2, Value.string x_3, Value.string x_4, Value.string x_5,
 Value.int IntKind.i64 x_6, Value.int IntKind.i64 x_7, Value.string x_8,
 Value.slice p n c, Value.string x_9,
 Value.int IntKind.i64 (IntKind.i64.wrap (x_10 + 1)),
 Value.int IntKind.i64
 (IntKind.i64.wrap
 (now +
 IntKind.i64.wrap
 (5 * 2 ^ min (IntKind.i64.wrap (IntKind.i64.wrap (x_10 + 1) - 1)).toNat 64)))]
 (wrM (wrM (wrM 2)))]
 w W →
 ∃ (w1 : World),
 UpdP Tryz.prog 104 (Value.map x_13) (Value.int IntKind.i64 x)
 (Value.agg
 #[Value.string x_2, Value.string x_3, Value.string x_4, Value.string x_5,
 Value.int IntKind.i64 x_6, Value.int IntKind.i64 x_7, Value.string x_8,
 Value.slice p n c, Value.string x_9,
 Value.int IntKind.i64 (IntKind.i64.wrap (x_10 + 1)),
 Value.int IntKind.i64
 (IntKind.i64.wrap
 (now +
 IntKind.i64.wrap
 (5 * 2 ^ min (IntKind.i64.wrap (IntKind.i64.wrap (x_10 + 1) - 1)).toNat 64)))])
 W w1 ∧
 KeptL [n_1] W w1 ∧
 R
 (Ending.returned
 (Value.tuple #[Value.int IntKind.i64 0, Value.bool false, Value.int IntKind.i64 0]))
 w1)
 (∃ (x_13 : Option Nat),
 (∀ (W : World),
 Loc w.heap.size
 [Blk.mk n_1 110
 [Value.string x_2, Value.string x_3, Value.string x_4, Value.string x_5,
 Value.int IntKind.i64 x_6, Value.int IntKind.i64 x_7, Value.string x_8,
 Value.slice p n c, Value.string x_9, Value.int IntKind.i64 (IntKind.i64.wrap (x_10 + 1)),
 Value.int IntKind.i64 x_11]
 (wrM (wrM 2))]
 w W →
 W.cell? (Addr.mk b (o + 2) none) = some (Value.map x_13)) ∧
 ∀ (W : World),
 Loc w.heap.size
 [Blk.mk n_1 110
 [Value.string x_2, Value.string x_3, Value.string x_4, Value.string x_5,
 Value.int IntKind.i64 x_6, Value.int IntKind.i64 x_7, Value.string x_8,
 Value.slice p n c, Value.string x_9, Value.int IntKind.i64 (IntKind.i64.wrap (x_10 + 1)),
 Value.int IntKind.i64 x_11]
 (wrM (wrM 2))]
 w W →
 ∃ (w1 : World),
 BltP Tryz.prog Builtin.delete [104, 3] [Value.map x_13, Value.int IntKind.i64 x] W w1 ∧
 KeptL [n_1] W w1 ∧
 ∀ (W : World),
 Loc w.heap.size
 [Blk.mk n_1 110
 [Value.string x_2, Value.string x_3, Value.string x_4, Value.string x_5,
 Value.int IntKind.i64 x_6, Value.int IntKind.i64 x_7, Value.string x_8,
 Value.slice p n c, Value.string x_9,
 Value.int IntKind.i64 (IntKind.i64.wrap (x_10 + 1)), Value.int IntKind.i64 x_11]
 0]
 w1 W →
 ∃ (S : World → Prop),
 S W ∧
 ∃ (x : ByteArray),
 ∃ (x_14 : ByteArray),
 ∃ (x_15 : ByteArray),
 ∃ (x_16 : ByteArray),
 ∃ (x_17 : Int),
 ∃ (x_18 : Int),
 ∃ (x_19 : ByteArray),
 ∃ (p : Option Addr),
 ∃ (n : Nat),
 ∃ (c : Nat),
 ∃ (x_20 : ByteArray),
 (∀ (w' : World),
 S w' →
 AtL w' n_1 0
 [Value.string x, Value.string x_14, Value.string x_15,
 Value.string x_16, Value.int IntKind.i64 x_17,
 Value.int IntKind.i64 x_18, Value.string x_19, Value.slice p n c,
 Value.string x_20]) ∧
 ∃ (x_21 : ByteArray),
 (∀ (w' : World),
 S w' → w'.cell? (Addr.mk b o none) = some (Value.string x_21)) ∧
 (CallsS Tryz.prog 52
 #[Value.agg
 #[Value.string x, Value.string x_14, Value.string x_15,
 Value.string x_16, Value.int IntKind.i64 x_17,
 Value.int IntKind.i64 x_18, Value.string x_19, Value.slice p n c,
 Value.string x_20],
 Value.string x_21, Value.int IntKind.i64 code,
 Value.int IntKind.i64 now]
 W fun (e : Ending) (w' : World) =>
 ∃ (x : ByteArray),
 ∃ (x_22 : ByteArray),
 ∃ (x_23 : ByteArray),
 ∃ (x_24 : ByteArray),
 ∃ (x_25 : Int),
 ∃ (x_26 : Int),
 ∃ (x_27 : ByteArray),
 ∃ (p : Option Addr),
 ∃ (n : Nat),
 ∃ (c : Nat),
 ∃ (x_28 : ByteArray),
 ∃ (x_29 : Bool),
 e =
 Ending.returned
 (Value.tuple
 #[Value.agg
 #[Value.string x, Value.string x_22,
 Value.string x_23, Value.string x_24,
 Value.int IntKind.i64 x_25,
 Value.int IntKind.i64 x_26, Value.string x_27,
 Value.slice p n c, Value.string x_28],
 Value.bool x_29]) ∧
 ∀ (n_2 : Nat) (w1 : World),
 NewB w'
 (Obj.cells
 #[Value.string (ByteArray.mk #[]),
 Value.string (ByteArray.mk #[]),
 Value.string (ByteArray.mk #[]),
 Value.string (ByteArray.mk #[]),
 Value.int IntKind.i64 0, Value.int IntKind.i64 0,
 Value.string (ByteArray.mk #[]),
 Value.slice none 0 0,
 Value.string (ByteArray.mk #[])]
 26)
 n_2 w1 →
 S w1 ∧
 WrL w1 n_2 0 9 ∧
 ∀ (w1_1 : World),
 PutB w1 n_2 0
 [Value.string x, Value.string x_22,
 Value.string x_23, Value.string x_24,
 Value.int IntKind.i64 x_25,
 Value.int IntKind.i64 x_26, Value.string x_27,
 Value.slice p n c, Value.string x_28]
 w1_1 →
 KeptL [n_1] W w1_1 ∧
 bsp (!x_29)
 (R
 (Ending.returned
 (Value.tuple
 #[Value.int IntKind.i64 0, Value.bool false,
 Value.int IntKind.i64 0]))
 w1_1)
 (∃ (x : ByteArray),
 ∃ (x_30 : ByteArray),
 ∃ (x_31 : ByteArray),
 ∃ (x_32 : ByteArray),
 ∃ (x_33 : Int),
 ∃ (x_34 : Int),
 ∃ (x_35 : ByteArray),
 ∃ (p : Option Addr),
 ∃ (n : Nat),
 ∃ (c : Nat),
 ∃ (x_36 : ByteArray),
 AtL w1_1 n_2 0
 [Value.string x, Value.string x_30,
 Value.string x_31,
 Value.string x_32,
 Value.int IntKind.i64 x_33,
 Value.int IntKind.i64 x_34,
 Value.string x_35,
 Value.slice p n c,
 Value.string x_36] ∧
 CallsS Tryz.prog 51
 #[Value.pointer
 (some (Addr.mk b o none)),
 Value.agg
 #[Value.string x,
 Value.string x_30,
 Value.string x_31,
 Value.string x_32,
 Value.int IntKind.i64 x_33,
 Value.int IntKind.i64 x_34,
 Value.string x_35,
 Value.slice p n c,
 Value.string x_36],
 Value.int IntKind.i64 now]
 w1_1
 fun (e : Ending) (w' : World) =>
 ∃ (x : Int),
 e =
 Ending.returned
 (Value.int IntKind.i64 x) ∧
 KeptL [n_1] w1_1 w' ∧
 R
 (Ending.returned
 (Value.tuple
 #[Value.int IntKind.i64 x,
 Value.bool true,
 Value.int IntKind.i64 0]))
 w')) ∧
 ∀ (n_2 : Nat) (w1 : World),
 NewB W
 (Obj.cells
 #[Value.string (ByteArray.mk #[]), Value.string (ByteArray.mk #[]),
 Value.string (ByteArray.mk #[]), Value.string (ByteArray.mk #[]),
 Value.int IntKind.i64 0, Value.int IntKind.i64 0,
 Value.string (ByteArray.mk #[]), Value.slice none 0 0,
 Value.string (ByteArray.mk #[])]
 26)
 n_2 w1 →
 S w1 ∧
 CallsS Tryz.prog 52
 #[Value.agg
 #[Value.string x, Value.string x_14, Value.string x_15,
 Value.string x_16, Value.int IntKind.i64 x_17,
 Value.int IntKind.i64 x_18, Value.string x_19,
 Value.slice p n c, Value.string x_20],
 Value.string x_21, Value.int IntKind.i64 code,
 Value.int IntKind.i64 now]
 w1 fun (e : Ending) (w' : World) =>
 ∃ (x : ByteArray),
 ∃ (x_22 : ByteArray),
 ∃ (x_23 : ByteArray),
 ∃ (x_24 : ByteArray),
 ∃ (x_25 : Int),
 ∃ (x_26 : Int),
 ∃ (x_27 : ByteArray),
 ∃ (p : Option Addr),
 ∃ (n : Nat),
 ∃ (c : Nat),
 ∃ (x_28 : ByteArray),
 ∃ (x_29 : Bool),
 e =
 Ending.returned
 (Value.tuple
 #[Value.agg
 #[Value.string x, Value.string x_22,
 Value.string x_23, Value.string x_24,
 Value.int IntKind.i64 x_25,
 Value.int IntKind.i64 x_26, Value.string x_27,
 Value.slice p n c, Value.string x_28],
 Value.bool x_29]) ∧
 WrL w' n_2 0 9 ∧
 ∀ (w1 : World),
 PutB w' n_2 0
 [Value.string x, Value.string x_22,
 Value.string x_23, Value.string x_24,
 Value.int IntKind.i64 x_25,
 Value.int IntKind.i64 x_26, Value.string x_27,
 Value.slice p n c, Value.string x_28]
 w1 →
 KeptL [n_1] W w1 ∧
 bsp (!x_29)
 (R
 (Ending.returned
 (Value.tuple
 #[Value.int IntKind.i64 0, Value.bool false,
 Value.int IntKind.i64 0]))
 w1)
 (∃ (x : ByteArray),
 ∃ (x_30 : ByteArray),
 ∃ (x_31 : ByteArray),
 ∃ (x_32 : ByteArray),
 ∃ (x_33 : Int),
 ∃ (x_34 : Int),
 ∃ (x_35 : ByteArray),
 ∃ (p : Option Addr),
 ∃ (n : Nat),
 ∃ (c : Nat),
 ∃ (x_36 : ByteArray),
 AtL w1 n_2 0
 [Value.string x, Value.string x_30,
 Value.string x_31,
 Value.string x_32,
 Value.int IntKind.i64 x_33,
 Value.int IntKind.i64 x_34,
 Value.string x_35,
 Value.slice p n c,
 Value.string x_36] ∧
 CallsS Tryz.prog 51
 #[Value.pointer
 (some (Addr.mk b o none)),
 Value.agg
 #[Value.string x,
 Value.string x_30,
 Value.string x_31,
 Value.string x_32,
 Value.int IntKind.i64 x_33,
 Value.int IntKind.i64 x_34,
 Value.string x_35,
 Value.slice p n c,
 Value.string x_36],
 Value.int IntKind.i64 now]
 w1 fun (e : Ending) (w' : World) =>
 ∃ (x : Int),
 e =
 Ending.returned
 (Value.int IntKind.i64 x) ∧
 KeptL [n_1] w1 w' ∧
 R
 (Ending.returned
 (Value.tuple
 #[Value.int IntKind.i64 x,
 Value.bool true,
 Value.int IntKind.i64 0]))
 w'))))
theorem vc_qfail (b : Nat) (o : Nat) (x : Int) (now : Int) (code : Int) (g : Bool) (w : World) (R : Ending → World → Prop) (h : VC_qfail b o x now code g w R) : Calls Tryz.prog 20 ([Value.pointer
    (some { block := b, off := o }),
  Value.int IntKind.i64 x, Value.int IntKind.i64 now, Value.int IntKind.i64 code,
  Value.bool g] : List Value).toArray w R := by
  have e : execR2 { P := Tryz.prog, loops := [], pur := purM, tails := [(11, 6), (14, 8)], joins := [], boxes := [] } Tryz.f20.results.toList R (Tryz.f20.body.getD .skip) (initF [Value.pointer
    (some { block := b, off := o }),
  Value.int IntKind.i64 x, Value.int IntKind.i64 now, Value.int IntKind.i64 code,
  Value.bool
    g] (Tryz.f20.ntmps - ([Value.pointer (some { block := b, off := o }), Value.int IntKind.i64 x,
  Value.int IntKind.i64 now, Value.int IntKind.i64 code,
  Value.bool g] : List Value).length)) w = VC_qfail b o x now code g w R := by kernel_rfl
  have hb : Tryz.f20.body = some (Tryz.f20.body.getD .skip) := by kernel_rfl
  exact calls_of_exec2' (P := Tryz.prog) (fn := Tryz.f20) (c := Tryz.f20.body.getD .skip) (args := [Value.pointer
    (some { block := b, off := o }),
  Value.int IntKind.i64 x, Value.int IntKind.i64 now, Value.int IntKind.i64 code,
  Value.bool g]) (w := w) (R := R) purM_ok Tryz.func20 hb e h

end Go.Proofs.YtmlmdljnfokebaaGreatDoor

/- Chapter 49: the contracts of Bounce and of a queue's NewQueue, append, Add, Get, Fail. Messages that are valid, or not too great; the table of powers of ten. -/
namespace Go.Proofs.YtmlmdljnfokebaaGreatDoor
open Go.RowKit Go.Maps

/-! ### Bounces -/
def mz : Ml := ⟨⟨#[]⟩, ⟨#[]⟩, ⟨#[]⟩, ⟨#[]⟩, 0, 0, ⟨#[]⟩, [], ⟨#[]⟩⟩
def bncM (m : Ml) (s : ByteArray) (code now : Int) : Option Ml :=
  if m.fu.size = 0 then none else if chkM m ≠ 0 ∨ minB now = false then none else if siteE s ≠ 0 then none else
  some ⟨⟨#[]⟩, s, m.fu, m.fs, m.n, now, ⟨#[78, 111, 116, 32, 100, 101, 108, 105, 118, 101, 114, 101, 100]⟩, [], m.tu ++ ⟨#[64]⟩ ++ m.ts ++ ⟨#[32]⟩ ++ decI code ++ ⟨#[10]⟩ ++ m.sj ++ ⟨#[10]⟩⟩
set_option maxHeartbeats 1000000 in
theorem bounce_any (m : Ml) (p : Option Addr) (c : Nat) (s : ByteArray) (code now : Int) (w : World) (hR : StrP w p m.hops) (hc : m.hops.length ≤ c) (hb : m.bd.size ≤ 4611686018427387904) (hhl : m.hops.length ≤ 4611686018427387904) (hT : GT w) (hcode : I64 code) :
    Calls Tryz.prog 52 #[mxA m p c, .string s, .int .i64 code, .int .i64 now] w fun e w' => e = .returned (.tuple #[mxA ((bncM m s code now).getD mz) none 0, .bool (bncM m s code now).isSome]) ∧ K0 w w' := by
  refine vc_mbounce m.fu m.fs m.tu m.ts m.n m.d m.sj p m.hops.length c m.bd s code now w _ (fun n1 n2 W hW => ?_)
  have kW : K0 w W := hW.kk rfl
  rw [toList_nil]
  unfold bncM
  refine bsp_intro (fun h => ?_) (fun h => ?_)
  · rw [if_neg (by simpa using h)]
    refine ⟨(mcheck_any m p c W (hR.k0 kW) hc hb hhl).mono fun e w1 ⟨he, k1⟩ => ⟨_, he, .of_k0 k1, bsp_intro (fun h => fun W2 hW2 => ?_) (fun h => ?_)⟩⟩
    · rw [if_pos (by simpa using h)]
      exact ⟨rfl, hW2.k0 (kW.trans k1)⟩
    have h01 : chkM m = 0 ∧ minB now = true := by simpa using h
    rw [if_neg (by rw [h01.1, h01.2]; simp)]
    obtain ⟨z1, z2, z3, z4, z5, z6, z7, z8, z9, z10, z11, z12⟩ := chkM_bd h01.1
    refine ⟨(siteK_any s w1).mono fun e w2 ⟨he, k2⟩ => ⟨_, _, he, .of_k0 k2, bsp_intro (fun h => fun W2 hW2 => ?_) (fun h => ?_)⟩⟩
    · rw [if_pos (show siteE s ≠ 0 by simpa [siteE] using h)]
      exact ⟨rfl, hW2.k0 ((kW.trans k1).trans k2)⟩
    rw [if_neg (show ¬ siteE s ≠ 0 by simpa [siteE] using h)]
    intro W3 hW3
    have k3 : K0 w2 W3 := hW3.kk rfl
    have k03 := ((kW.trans k1).trans k2).trans k3
    have hc2 : W3.heap[n2]? = some (.cells #[.string ⟨#[]⟩, .string ⟨#[]⟩, .string ⟨#[]⟩, .string ⟨#[]⟩, .int .i64 0, .int .i64 0, .string ⟨#[]⟩, .slice none 0 0, .string ⟨#[]⟩] 26 (0, 0)) := hW3.cells 0 rfl
    have hc1 : W3.heap[n1]? = some (.cells #[.string m.fu, .string m.fs, .string m.tu, .string m.ts, .int .i64 m.n, .int .i64 m.d, .string m.sj, .slice p m.hops.length c, .string m.bd] 26 (0, 0)) := hW3.cells 1 rfl
    have g2 : w.heap.size ≤ n2 := hW.fresh 0 rfl rfl
    have hne : n2 ≠ n1 := hW.apart 0 1 rfl rfl (by decide)
    have hat : ∀ (o : Nat) (cs : List Value), ((#[.string m.fu, .string m.fs, .string m.tu, .string m.ts, .int .i64 m.n, .int .i64 m.d, .string m.sj, .slice p m.hops.length c, .string m.bd] : Array Value).toList.drop o).take cs.length = cs → ∀ wx, K0 W3 wx → AtL wx n1 o cs := fun o cs hcs wx k => AtL_block (k.blk hc1 (fun h => h)) hcs
    refine ⟨fun wx => K0 W3 wx, .refl _ _, m.fu, m.fs, fun wx k => hat 0 _ rfl wx k, m.n, fun wx k => cell_at (k.blk hc1 (fun h => h)) rfl, m.tu, m.ts, fun wx k => hat 2 _ rfl wx k, m.sj, fun wx k => cell_at (k.blk hc1 (fun h => h)) rfl, ?_⟩
    refine ⟨(mstr_any m.tu m.ts W3 (by omega) (by omega)).mono fun e w4 ⟨he, k4⟩ => ⟨_, he, k4, nneg (by simp only [ByteArray.size_append, size_one]; omega), ?_⟩⟩
    have hd := decI_size hcode
    refine ⟨(digits_any code w4 (hT.k0 (k03.trans k4)) hcode).mono fun e w5 ⟨he, k5⟩ => ⟨_, he, k4.trans k5, nneg (by simp only [ByteArray.size_append, size_one]; omega), nneg (by simp only [ByteArray.size_append, size_one]; omega), nneg (by simp only [ByteArray.size_append, size_one]; omega), nneg (by simp only [ByteArray.size_append, size_one]; omega), ?_⟩⟩
    have hc5 := (k4.trans k5).blk hc2 (fun h => h)
    refine ⟨WrL_block hc5 (Nat.le_refl 9), fun w6 hp => ?_⟩
    have hc6 := hp.full hc5 rfl
    refine ⟨⟨by rw [hp.size]; exact (k4.trans k5).size, fun x hx hlt' => ?_⟩, _, _, _, _, _, _, _, _, _, _, _, AtL_block hc6 rfl, rfl, put_k0 (k03.trans (k4.trans k5)) hp g2⟩
    obtain rfl : x = n1 := by simpa using hx
    rw [hp.blk ((k4.trans k5).blk hc1 (fun h => h)) (fun e => hne e.symm), hc1]
  · rw [if_pos (by simpa using h)]
    exact ⟨.refl _ _, fun W2 hW2 => ⟨rfl, hW2.k0 kW⟩⟩

/-! ### Queues -/
/-- A message that waits. -/
structure Qd where
  m : Ml
  p : Option Addr
  c : Nat
  f : Int
  due : Int
abbrev qdV (x : Qd) : Value := .agg #[.string x.m.fu, .string x.m.fs, .string x.m.tu, .string x.m.ts, .int .i64 x.m.n, .int .i64 x.m.d, .string x.m.sj, .slice x.p x.m.hops.length x.c, .string x.m.bd, .int .i64 x.f, .int .i64 x.due]
def qz : Qd := ⟨mz, none, 0, 0, 0⟩
/-- A queue in the memory: in block b, its map in block mb. -/
structure QR (w : World) (b mb : Nat) (site : ByteArray) (last : Int) (l : List (Int × Qd)) : Prop where
  blk : w.heap[b]? = some (.cells #[.string site, .int .i64 last, .map (some mb)] 106 (0, 0))
  map : MapB Tryz.prog 3 (fun a : Int => Value.int .i64 a) w mb (amap qdV l)
  ne : mb ≠ b
  str : ∀ a x, aget l a = some x → StrP w x.p x.m.hops ∧ (∀ g o, x.p = some ⟨g, o, none⟩ → b < g ∧ g ≠ mb)
  ok : ∀ a x, aget l a = some x → chkM x.m = 0 ∧ x.m.hops.length ≤ x.c ∧ 0 ≤ x.f ∧ x.f ≤ 7
theorem encInt (x y : Int) (h : Value.int .i64 x = Value.int .i64 y) : x = y := by cases h; rfl
theorem keyInt {a : Int} (h : I64 a) : keyOf Tryz.prog 3 (.int .i64 a) = some (.int .i64 a) := keyOf_int_mk Tryz.underlying3 (by unfold I64 at h; simp [Lit.wf, IntKind.min, IntKind.max, IntKind.bits, IntKind.signed]; omega)
theorem zeroQ (w : World) : (zeroValue 110).run Tryz.prog w = .ok (qdV qz) w := by kernel_rfl
section
variable {w w' : World} {b mb : Nat} {site : ByteArray} {last : Int} {l : List (Int × Qd)}
theorem QR.k0 (h : QR w b mb site last l) (hk : K0 w w') : QR w' b mb site last l :=
  ⟨hk.blk h.blk (fun h => h), h.map.kp hk (fun h => h), h.ne, fun a x hx => ⟨(h.str a x hx).1.k0 hk, (h.str a x hx).2⟩, h.ok⟩
theorem QR.look (h : QR w b mb site last l) {a : Int} (ha : I64 a) : LookP Tryz.prog 104 (.map (some mb)) (.int .i64 a) true (.tuple #[qdV ((aget l a).getD qz), .bool (aget l a).isSome]) w := by
  have := MapB.look encInt h.map (int_keyed Tryz.underlying3) Tryz.underlying104 (zeroQ w) (keyInt ha) true
  rw [aget_amap] at this
  cases hg : aget l a with
  | none => rw [hg] at this; exact this
  | some x => rw [hg] at this; exact this
theorem QR.upd (h : QR w b mb site last l) {a : Int} (ha : I64 a) (x : Qd) (h1 : StrP w x.p x.m.hops) (h2 : ∀ g o, x.p = some ⟨g, o, none⟩ → b < g ∧ g ≠ mb) (h3 : chkM x.m = 0 ∧ x.m.hops.length ≤ x.c ∧ 0 ≤ x.f ∧ x.f ≤ 7) :
    ∃ w1, UpdP Tryz.prog 104 (.map (some mb)) (.int .i64 a) (qdV x) w w1 ∧ QR w1 b mb site last (aset l a x) ∧ Kp (· = mb) w w1 := by
  obtain ⟨w1, hu, hm, hk⟩ := MapB.upd encInt h.map (int_keyed Tryz.underlying3) Tryz.underlying104 (keyInt ha) (qdV x)
  rw [aset_amap] at hm
  refine ⟨w1, hu, ⟨hk.blk h.blk (fun e => h.ne e.symm), hm, h.ne, fun a' y hy => ?_, fun a' y hy => ?_⟩, hk⟩
  · rw [aget_aset] at hy
    split at hy
    · cases hy; exact ⟨h1.kp hk (fun g o hg e => (h2 g o hg).2 e), h2⟩
    · exact ⟨(h.str a' y hy).1.kp hk (fun g o hg e => ((h.str a' y hy).2 g o hg).2 e), (h.str a' y hy).2⟩
  · rw [aget_aset] at hy
    split at hy
    · cases hy; exact h3
    · exact h.ok a' y hy
theorem QR.del (h : QR w b mb site last l) {a : Int} (ha : I64 a) :
    ∃ w1, BltP Tryz.prog .delete [104, 3] [.map (some mb), .int .i64 a] w w1 ∧ QR w1 b mb site last (adel l a) ∧ Kp (· = mb) w w1 := by
  obtain ⟨w1, hu, hm, hk⟩ := MapB.del encInt h.map (int_keyed Tryz.underlying3) Tryz.underlying104 (keyInt ha)
  have e : adel (amap qdV l) a = amap qdV (adel l a) := by unfold adel amap; rw [List.filter_map]; rfl
  rw [e] at hm
  refine ⟨w1, hu, ⟨hk.blk h.blk (fun e => h.ne e.symm), hm, h.ne, fun a' y hy => ?_, fun a' y hy => ?_⟩, hk⟩
  · rw [aget_adel] at hy
    split at hy
    · cases hy
    · exact ⟨(h.str a' y hy).1.kp hk (fun g o hg e => ((h.str a' y hy).2 g o hg).2 e), (h.str a' y hy).2⟩
  · rw [aget_adel] at hy
    split at hy
    · cases hy
    · exact h.ok a' y hy
theorem QR.len (h : QR w b mb site last l) : LenP Tryz.prog 104 (.map (some mb)) (l.length : Nat) w := by
  obtain ⟨es, c, hb, he⟩ := h.map.blk
  have hl : es.size = l.length := by
    have := congrArg List.length he
    simpa [amap] using this
  constructor
  intro ty
  simp [Builtin.len_, run_underlying Tryz.underlying104, MapKept.run_getObj_map hb, Result.andThen, hl, goInt]
end

theorem newq_any (s : ByteArray) (w : World) :
    Calls Tryz.prog 17 #[.string s] w fun e w' => (siteE s ≠ 0 ∧ e = .returned (.tuple #[.pointer none, .int .i64 (siteE s)]) ∨ siteE s = 0 ∧ ∃ b mb, e = .returned (.tuple #[.pointer (some ⟨b, 0, none⟩), .int .i64 0]) ∧ QR w' b mb s 0 [] ∧ w.heap.size ≤ b ∧ w.heap.size ≤ mb) ∧ K0 w w' := by
  refine vc_newq s w _ ⟨(siteK_any s w).mono fun e w1 ⟨he, k1⟩ => ⟨_, _, he, .of_k0 k1, bsp_intro (fun h => ?_) (fun h => ?_)⟩⟩
  · exact ⟨.inl ⟨show siteE s ≠ 0 by simpa [siteE] using h, rfl⟩, k1⟩
  · refine fun n w2 hn => ⟨.of_kp (hn.kp (fun _ => False)) (fun _ _ h => h), fun n3 W hW => ?_⟩
    have k3 : K0 w2 W := hW.kk rfl
    have hnb := hn.block
    have h3 : w2.heap.size ≤ n3 := hW.fresh 0 rfl rfl
    refine ⟨.inr ⟨show siteE s = 0 by simpa [siteE] using h, n3, n, rfl, ⟨hW.cells 0 rfl, (hn.map).kp k3 (fun h => h), ?_, (fun a x hx => by cases hx), (fun a x hx => by cases hx)⟩, ?_, Nat.le_trans k1.size hn.ge⟩, (k1.trans (hn.kp _)).trans k3⟩
    · have := block_lt hnb; omega
    · have h1 := k1.size; have h2 := (hn.kp (fun _ => False)).size; omega

set_option maxHeartbeats 1000000 in
theorem qapp_any2 (b mb : Nat) (site : ByteArray) (last : Int) (l : List (Int × Qd)) (m : Ml) (p : Option Addr) (c : Nat) (now : Int) (w : World) (hQ : QR w b mb site last l) (hR : StrP w p m.hops) (hD : ∀ g o, p = some ⟨g, o, none⟩ → g ≠ b) (hm : chkM m = 0) (hlast : 0 ≤ last ∧ last ≤ 4611686018427387904) :
    Calls Tryz.prog 51 #[.pointer (some ⟨b, 0, none⟩), mxA m p c, .int .i64 now] w fun e w' => e = .returned (.int .i64 (last + 1)) ∧ (∃ (p' : Option Addr) (c' : Nat), QR w' b mb site (last + 1) (aset l (last + 1) ⟨m, p', c', 0, now⟩) ∧ ∀ g o, p' = some ⟨g, o, none⟩ → w.heap.size ≤ g) ∧ Kp (fun k => k = b ∨ k = mb) w w' := by
  obtain ⟨z1, z2, z3, z4, z5, z6, z7, z8, z9, z10, z11, z12⟩ := chkM_bd hm
  refine vc_qapp b 0 m.fu m.fs m.tu m.ts m.n m.d m.sj p m.hops.length c m.bd now w _ (fun n1 => ?_)
  refine ⟨some mb, fun W hW => cell_at ((hW.kk rfl : K0 w W).blk hQ.blk (fun h => h)) rfl, bsp_intro (fun h => by cases h) (fun _ => ?_)⟩
  refine ⟨last, fun W hW => cell_at ((hW.kk rfl : K0 w W).blk hQ.blk (fun h => h)) rfl, fun W hW => ?_⟩
  have kW : K0 w W := hW.kk rfl
  have hbW := kW.blk hQ.blk (fun h => h)
  have hn1 : W.heap[n1]? = some (.cells #[.string m.fu, .string m.fs, .string m.tu, .string m.ts, .int .i64 m.n, .int .i64 m.d, .string m.sj, .slice p m.hops.length c, .string m.bd] 26 (0, 0)) := hW.cells 0 rfl
  have gn : w.heap.size ≤ n1 := hW.fresh 0 rfl rfl
  have hbn : n1 ≠ b := fun e => by have := block_lt hQ.blk; omega
  have hmn : n1 ≠ mb := fun e => by have := hQ.map.lt; omega
  have eL : IntKind.i64.wrap (last + 1) = last + 1 := wr64 (by omega) (by omega)
  refine ⟨cell_wr hbW (by show 1 < 3; omega), fun w1 hp => ⟨.of_kp hp.kp (fun x hx e => by simp at hx; omega), fun W2 hW2 => ?_⟩⟩
  rw [eL] at hp
  have k2 : K0 w1 W2 := hW2.kk rfl
  have hb1 : w1.heap[b]? = some (.cells #[.string site, .int .i64 (last + 1), .map (some mb)] 106 (0, 0)) := by rw [hp.block hbW]; rfl
  have hQ1 : QR w1 b mb site (last + 1) l := ⟨hb1, (hQ.map.kp kW (fun h => h)).kp hp.kp (fun e => hQ.ne e), hQ.ne, fun a x hx => ⟨((hQ.str a x hx).1.k0 kW).kp hp.kp (fun g o hg e => by have := ((hQ.str a x hx).2 g o hg).1; omega), (hQ.str a x hx).2⟩, hQ.ok⟩
  have hQ2 := hQ1.k0 k2
  have hn2 : W2.heap[n1]? = some (.cells #[.string m.fu, .string m.fs, .string m.tu, .string m.ts, .int .i64 m.n, .int .i64 m.d, .string m.sj, .slice p m.hops.length c, .string m.bd] 26 (0, 0)) := hW2.cells 0 rfl
  have kk12 : Kp (fun k => k = b ∨ k = mb) w W2 := ((Kp.mono kW (fun _ _ h => h.elim)).trans (hp.kp.mono fun _ _ h => .inl h)).trans (Kp.mono k2 (fun _ _ h => h.elim))
  refine ⟨fun wx => K0 W2 wx, .refl _ _, some mb, fun wx k => cell_at (k.blk hQ2.blk (fun h => h)) rfl, last + 1, fun wx k => cell_at (k.blk hQ2.blk (fun h => h)) rfl, m.fu, m.fs, m.tu, m.ts, m.n, m.d, m.sj, p, m.hops.length, c, m.bd, fun wx k => AtL_block (k.blk hn2 (fun h => h)) rfl, ?_⟩
  have hRb : StrP W2 p m.hops := by
    exact ((hR.k0 kW).kp hp.kp (fun g o hg e => hD g o hg e)).k0 k2
  refine ⟨(clone_any m p c W2 hRb (by omega)).mono fun e w3 ⟨⟨p', c', he, ho⟩, k3⟩ => ⟨_, _, _, _, _, _, _, _, _, _, _, he, k3, ?_⟩⟩
  have hfr : ∀ g o, p' = some ⟨g, o, none⟩ → b < g ∧ g ≠ mb := fun g o hg => by
    have := own_ge ho (k := g) (by rw [hg]; rfl)
    have h1 := block_lt hQ2.blk
    have h2 := hQ2.map.lt
    exact ⟨by omega, by omega⟩
  obtain ⟨w4, hu, hQ4, k4⟩ := (hQ2.k0 k3).upd (a := last + 1) ⟨by omega, by omega⟩ ⟨m, p', c', 0, now⟩ (strP_own ho) hfr ⟨hm, own_le ho, by show (0 : Int) ≤ 0; omega, by show (0 : Int) ≤ 7; omega⟩
  refine ⟨w4, hu, .of_kp ((Kp.mono k3 (fun _ _ h => h.elim)).trans k4) (fun x hx e => by simp at hx; omega), last + 1, cell_at hQ4.blk rfl, rfl, ⟨p', c', hQ4, fun g o hg => Nat.le_trans kk12.size (own_ge ho (k := g) (by rw [hg]; rfl))⟩, ?_⟩
  exact (kk12.trans (Kp.mono k3 (fun _ _ h => h.elim))).trans (k4.mono fun _ _ h => .inr h)
theorem qapp_any (b mb : Nat) (site : ByteArray) (last : Int) (l : List (Int × Qd)) (m : Ml) (p : Option Addr) (c : Nat) (now : Int) (w : World) (hQ : QR w b mb site last l) (hR : StrP w p m.hops) (hD : ∀ g o, p = some ⟨g, o, none⟩ → g ≠ b) (hm : chkM m = 0) (hlast : 0 ≤ last ∧ last ≤ 4611686018427387904) :
    Calls Tryz.prog 51 #[.pointer (some ⟨b, 0, none⟩), mxA m p c, .int .i64 now] w fun e w' => e = .returned (.int .i64 (last + 1)) ∧ (∃ (p' : Option Addr) (c' : Nat), QR w' b mb site (last + 1) (aset l (last + 1) ⟨m, p', c', 0, now⟩)) ∧ Kp (fun k => k = b ∨ k = mb) w w' :=
  (qapp_any2 b mb site last l m p c now w hQ hR hD hm hlast).mono fun _ _ ⟨he, ⟨p', c', hq, _⟩, hk⟩ => ⟨he, ⟨p', c', hq⟩, hk⟩

theorem qadd_any2 (b mb : Nat) (site : ByteArray) (last : Int) (l : List (Int × Qd)) (m : Ml) (p : Option Addr) (c : Nat) (now : Int) (w : World) (hQ : QR w b mb site last l) (hR : StrP w p m.hops) (hD : ∀ g o, p = some ⟨g, o, none⟩ → g ≠ b) (hc : m.hops.length ≤ c) (hb : m.bd.size ≤ 4611686018427387904) (hhl : m.hops.length ≤ 4611686018427387904) (hlast : 0 ≤ last ∧ last ≤ 4611686018427387904) :
    Calls Tryz.prog 18 #[.pointer (some ⟨b, 0, none⟩), mxA m p c, .int .i64 now] w fun e w' =>
      (e = .returned (.tuple #[.int .i64 0, .int .i64 (if chkM m ≠ 0 then chkM m else if minB now = false then 13 else 9)]) ∧ (chkM m ≠ 0 ∨ minB now = false ∨ 1024 ≤ l.length) ∧ K0 w w') ∨
      (chkM m = 0 ∧ minB now = true ∧ l.length < 1024 ∧ e = .returned (.tuple #[.int .i64 (last + 1), .int .i64 0]) ∧ (∃ (p' : Option Addr) (c' : Nat), QR w' b mb site (last + 1) (aset l (last + 1) ⟨m, p', c', 0, now⟩) ∧ ∀ g o, p' = some ⟨g, o, none⟩ → w.heap.size ≤ g) ∧ Kp (fun k => k = b ∨ k = mb) w w') := by
  refine vc_qadd b 0 m.fu m.fs m.tu m.ts m.n m.d m.sj p m.hops.length c m.bd now w _ (fun n1 W hW => ?_)
  have kW : K0 w W := hW.kk rfl
  have gn : w.heap.size ≤ n1 := hW.fresh 0 rfl rfl
  refine ⟨(mcheck_any m p c W (hR.k0 kW) hc hb hhl).mono fun e w1 ⟨he, k1⟩ => ⟨_, he, .of_k0 k1, bsp_intro (fun h => ?_) (fun h => ?_)⟩⟩
  · have h : chkM m ≠ 0 := by simpa using h
    rw [if_pos h]; exact .inl ⟨rfl, .inl h, kW.trans k1⟩
  have h0 : chkM m = 0 := by simpa using h
  rw [if_neg (by rw [h0]; decide)]
  refine bsp_intro (fun h => ?_) (fun h => ?_)
  · have h : minB now = false := by simpa using h
    rw [if_pos h]; exact .inl ⟨rfl, .inr (.inl h), kW.trans k1⟩
  have hmin : minB now = true := by simpa using h
  rw [if_neg (by rw [hmin]; decide)]
  have hQ1 := hQ.k0 (kW.trans k1)
  refine ⟨some mb, cell_at hQ1.blk rfl, _, hQ1.len, bsp_intro (fun h => ?_) (fun h => ?_)⟩
  · exact .inl ⟨rfl, .inr (.inr (by simp at h; omega)), kW.trans k1⟩
  · refine ⟨(qapp_any2 b mb site last l m p c now w1 hQ1 (hR.k0 (kW.trans k1)) hD h0 hlast).mono fun e w2 ⟨he, ⟨p', c', hq, hf⟩, k2⟩ => ⟨_, he, .of_kp k2 (fun x hx e => ?_), .inr ⟨h0, hmin, by simp at h; omega, rfl, ⟨p', c', hq, fun g o hg => Nat.le_trans (kW.trans k1).size (hf g o hg)⟩, (Kp.mono (kW.trans k1) (fun _ _ h => h.elim)).trans k2⟩⟩⟩
    simp at hx
    have h1 := block_lt hQ.blk
    have h2 := hQ.map.lt
    omega
theorem qadd_any (b mb : Nat) (site : ByteArray) (last : Int) (l : List (Int × Qd)) (m : Ml) (p : Option Addr) (c : Nat) (now : Int) (w : World) (hQ : QR w b mb site last l) (hR : StrP w p m.hops) (hD : ∀ g o, p = some ⟨g, o, none⟩ → g ≠ b) (hc : m.hops.length ≤ c) (hb : m.bd.size ≤ 4611686018427387904) (hhl : m.hops.length ≤ 4611686018427387904) (hlast : 0 ≤ last ∧ last ≤ 4611686018427387904) :
    Calls Tryz.prog 18 #[.pointer (some ⟨b, 0, none⟩), mxA m p c, .int .i64 now] w fun e w' =>
      (e = .returned (.tuple #[.int .i64 0, .int .i64 (if chkM m ≠ 0 then chkM m else if minB now = false then 13 else 9)]) ∧ (chkM m ≠ 0 ∨ minB now = false ∨ 1024 ≤ l.length) ∧ K0 w w') ∨
      (chkM m = 0 ∧ minB now = true ∧ l.length < 1024 ∧ e = .returned (.tuple #[.int .i64 (last + 1), .int .i64 0]) ∧ (∃ (p' : Option Addr) (c' : Nat), QR w' b mb site (last + 1) (aset l (last + 1) ⟨m, p', c', 0, now⟩)) ∧ Kp (fun k => k = b ∨ k = mb) w w') :=
  (qadd_any2 b mb site last l m p c now w hQ hR hD hc hb hhl hlast).mono fun _ _ h => h.imp id fun ⟨h1, h2, h3, h4, ⟨p', c', hq, _⟩, hk⟩ => ⟨h1, h2, h3, h4, ⟨p', c', hq⟩, hk⟩

set_option maxHeartbeats 1000000 in
theorem qget_any (b mb : Nat) (site : ByteArray) (last : Int) (l : List (Int × Qd)) (a : Int) (w : World) (hQ : QR w b mb site last l) (ha : I64 a) :
    Calls Tryz.prog 21 #[.pointer (some ⟨b, 0, none⟩), .int .i64 a] w fun e w' => (∃ (p' : Option Addr) (c' : Nat), e = .returned (.tuple #[mxA ((aget l a).getD qz).m p' c', .int .i64 ((aget l a).getD qz).due, .bool (aget l a).isSome]) ∧ (aget l a = none → p' = none ∧ c' = 0) ∧ w'.ownsRow w.heap.size 9 1 (.slice p' ((aget l a).getD qz).m.hops.length c') ((aget l a).getD qz).m.hops.length (((aget l a).getD qz).m.hops.map .string)) ∧ K0 w w' := by
  refine vc_qget b 0 a w _ (fun n => ?_)
  refine ⟨some mb, fun W hW => cell_at ((hW.kk rfl : K0 w W).blk hQ.blk (fun h => h)) rfl, ?_⟩
  cases hg : aget l a with
  | none =>
    refine ⟨_, _, _, _, _, _, _, _, _, _, _, _, _, false, fun W hW => by have := (hQ.k0 (hW.kk rfl : K0 w W)).look ha; rw [hg] at this; exact this, fun n2 => ?_⟩
    refine bsp_intro (fun _ => fun W hW => ?_) (fun h => by cases h)
    exact ⟨⟨none, 0, rfl, fun _ => ⟨rfl, rfl⟩, World.ownsRow_nil _ _ _ _⟩, hW.kk rfl⟩
  | some x =>
    refine ⟨_, _, _, _, _, _, _, _, _, _, _, _, _, true, fun W hW => by have := (hQ.k0 (hW.kk rfl : K0 w W)).look ha; rw [hg] at this; exact this, fun n2 => ?_⟩
    refine bsp_intro (fun h => by cases h) (fun _ => fun W hW => ?_)
    have kW : K0 w W := hW.kk rfl
    have hc2 : W.heap[n2]? = some (.cells #[.string x.m.fu, .string x.m.fs, .string x.m.tu, .string x.m.ts, .int .i64 x.m.n, .int .i64 x.m.d, .string x.m.sj, .slice x.p x.m.hops.length x.c, .string x.m.bd, .int .i64 x.f, .int .i64 x.due] 110 (0, 0)) := hW.cells 0 rfl
    have hc1 : W.heap[n]? = some (.cells #[.string ⟨#[]⟩, .string ⟨#[]⟩, .string ⟨#[]⟩, .string ⟨#[]⟩, .int .i64 0, .int .i64 0, .string ⟨#[]⟩, .slice none 0 0, .string ⟨#[]⟩] 26 (0, 0)) := hW.cells 1 rfl
    have gn : w.heap.size ≤ n := hW.fresh 1 rfl rfl
    have hne : n2 ≠ n := hW.apart 0 1 rfl rfl (by decide)
    obtain ⟨z1, z2, z3, z4, z5, z6, z7, z8, z9, z10, z11, z12⟩ := chkM_bd (hQ.ok a x hg).1
    refine ⟨fun wx => Kp (fun k => k = n) W wx, .refl _ _, _, _, _, _, _, _, _, _, _, _, _, fun wx k => AtL_block (k.blk hc2 (fun e => hne e)) rfl, x.due, fun wx k => cell_at (k.blk hc2 (fun e => hne e)) rfl, ?_⟩
    refine ⟨(clone_any x.m x.p x.c W ((hQ.str a x hg).1.k0 kW) (by omega)).mono fun e w3 ⟨⟨p', c', he, ho⟩, k3⟩ => ⟨_, _, _, _, _, _, _, _, _, _, _, he, Kp.mono k3 (fun _ _ h => h.elim), ?_⟩⟩
    have hc3 := k3.blk hc1 (fun h => h)
    refine ⟨WrL_block hc3 (Nat.le_refl 9), fun w4 hp => ⟨(Kp.mono k3 (fun _ _ h => h.elim)).trans hp.kp, ⟨by rw [hp.size]; exact k3.size, fun m hm hlt' => ?_⟩, _, _, _, _, _, _, _, _, _, _, _, AtL_block (hp.full hc3 rfl) rfl, ⟨p', c', rfl, (fun h => by cases h), ?_⟩, put_k0 (kW.trans k3) hp gn⟩⟩
    · obtain rfl : m = n2 := by simpa using hm
      rw [hp.blk (k3.blk hc2 (fun h => h)) hne, hc2]
    · refine own_base (owns_kp ho hp.kp (fun k hk e => ?_)) kW.size
      have := own_ge ho hk
      have := block_lt hc1
      omega

/-- What a failed delivery leaves: the answer, the new entry or the bounce. -/
def failD (x : Qd) (now : Int) : Int := now + 5 * 2 ^ x.f.toNat
end Go.Proofs.YtmlmdljnfokebaaGreatDoor

/- Chapter 49: a bounce is valid (plain); the contract of a queue's Fail. No condition but that numbers are in range. -/
namespace Go.Proofs.YtmlmdljnfokebaaGreatDoor
open Go.RowKit Go.Maps

theorem env_parts {m : Ml} (h : chkM m = 0) : userB m.fu = true ∧ siteE m.fs = 0 ∧ userB m.tu = true ∧ siteE m.ts = 0 := by
  unfold chkM at h
  split at h
  · rename_i h1; exact absurd h h1
  rename_i he
  have he : envE m = 0 := Classical.byContradiction he
  unfold envE at he
  split at he
  · cases he
  rename_i e1
  split at he
  · rename_i h1; exact absurd he h1
  rename_i e2
  split at he
  · cases he
  rename_i e3
  split at he
  · rename_i h1; exact absurd he h1
  rename_i e4
  exact ⟨by simpa using e1, Classical.byContradiction e2, by have : ¬ userB m.tu = false := fun h => e3 (.inl h); simpa using this, Classical.byContradiction e4⟩
theorem nd_ok : subjE ⟨#[78, 111, 116, 32, 100, 101, 108, 105, 118, 101, 114, 101, 100]⟩ = 0 := by decide +kernel
theorem user_nil : userB ⟨#[]⟩ = true := by decide +kernel
theorem bnc_ok {m y : Ml} {s : ByteArray} {code now : Int} (hcode : I64 code) (h : bncM m s code now = some y) : chkM y = 0 ∧ y.hops = [] ∧ y.fu.size = 0 := by
  unfold bncM at h
  split at h
  · cases h
  rename_i h1
  split at h
  · cases h
  rename_i h2
  split at h
  · cases h
  rename_i h3
  have h2a : chkM m = 0 := Classical.byContradiction fun h => h2 (.inl h)
  have h2b : minB now = true := by have : ¬ minB now = false := fun h => h2 (.inr h); simpa using this
  have h3 : siteE s = 0 := Classical.byContradiction h3
  obtain ⟨z1, z2, z3, z4, z5, z6, z7, z8, z9, z10, z11, z12⟩ := chkM_bd h2a
  obtain ⟨p1, p2, p3, p4⟩ := env_parts h2a
  cases h
  refine ⟨?_, rfl, rfl⟩
  have hd := decI_size hcode
  have he : envE ⟨⟨#[]⟩, s, m.fu, m.fs, m.n, now, ⟨#[78, 111, 116, 32, 100, 101, 108, 105, 118, 101, 114, 101, 100]⟩, [], m.tu ++ ⟨#[64]⟩ ++ m.ts ++ ⟨#[32]⟩ ++ decI code ++ ⟨#[10]⟩ ++ m.sj ++ ⟨#[10]⟩⟩ = 0 := by
    unfold envE
    rw [if_neg (by rw [user_nil]; decide), if_neg (by rw [h3]; decide), if_neg (by rintro (h | h); rw [p1] at h; cases h; exact h1 h), if_neg (by rw [p2]; decide), if_neg (by show ¬ (m.n < 0 ∨ 2147483647 < m.n); omega), if_neg (by rw [h2b]; decide)]
  have hb : (m.tu ++ ⟨#[64]⟩ ++ m.ts ++ ⟨#[32]⟩ ++ decI code ++ ⟨#[10]⟩ ++ m.sj ++ ⟨#[10]⟩ : ByteArray).size ≤ 32768 := by
    simp only [ByteArray.size_append, size_one]; omega
  unfold chkM
  rw [he, nd_ok, if_neg (by decide), if_neg (by decide), if_neg (by show ¬ 16 < 0; omega), if_neg (by show ¬ (0 : Int) ≠ 0; decide), if_neg (Nat.not_lt.2 hb)]
theorem pow7 : ∀ n : Nat, n ≤ 7 → (1 : Int) ≤ 2 ^ n ∧ (2 : Int) ^ n ≤ 128 := by
  intro n hn
  have : n = 0 ∨ n = 1 ∨ n = 2 ∨ n = 3 ∨ n = 4 ∨ n = 5 ∨ n = 6 ∨ n = 7 := by omega
  rcases this with rfl | rfl | rfl | rfl | rfl | rfl | rfl | rfl <;> decide
theorem pk {T : Prop} {W w6 : World} {n : Nat} {X : Obj} (k : K0 W w6) (hb : w6.heap[n]? = some X) (h : K0 W w6 → w6.heap[n]? = some X → T) : T := h k hb
theorem GT_kp {w w' : World} {b mb : Nat} {site : ByteArray} {last : Int} {l : List (Int × Qd)} (h : GT w) (hk : Kp (fun k => k = b ∨ k = mb) w w') (hQ : QR w b mb site last l) : GT w' := by
  unfold GT Lib.TabIs World.var? at *
  have hg : Tryz.prog.globalNamed "internal/strconv.uint64pow10" = some 1 := by kernel_rfl
  simp only [hg, Option.bind_some] at h ⊢
  have hlt : 1 < w.heap.size := by
    rcases Nat.lt_or_ge 1 w.heap.size with h' | h'
    · exact h'
    · rw [Array.getElem?_eq_none h'] at h; simp at h
  rw [hk.block 1 hlt]
  · exact h
  · rintro (e | e)
    · rw [e, hQ.blk] at h
      simp [Lib.pow10Tab] at h
      have := congrArg List.length h
      simp at this
    · obtain ⟨es, c, hb, _⟩ := hQ.map.blk
      rw [e, hb] at h
      simp [Lib.pow10Tab] at h
/-- What Fail answers and leaves. -/
def FailP (w w' : World) (b mb : Nat) (site : ByteArray) (last : Int) (l : List (Int × Qd)) (a now code : Int) (g : Bool) (e : Ending) : Prop :=
  (aget l a = none ∧ e = .returned (.tuple #[.int .i64 0, .bool false, .int .i64 8]) ∧ K0 w w') ∨
  (∃ x, aget l a = some x ∧ (
    (minB now = false ∧ e = .returned (.tuple #[.int .i64 0, .bool false, .int .i64 13]) ∧ K0 w w') ∨
    (minB now = true ∧ g = false ∧ x.f + 1 < 8 ∧ e = .returned (.tuple #[.int .i64 0, .bool false, .int .i64 0]) ∧ QR w' b mb site last (aset l a ⟨x.m, x.p, x.c, x.f + 1, failD x now⟩) ∧ Kp (fun k => k = b ∨ k = mb) w w') ∨
    (minB now = true ∧ (g = true ∨ 8 ≤ x.f + 1) ∧ bncM x.m site code now = none ∧ e = .returned (.tuple #[.int .i64 0, .bool false, .int .i64 0]) ∧ QR w' b mb site last (adel l a) ∧ Kp (fun k => k = b ∨ k = mb) w w') ∨
    (minB now = true ∧ (g = true ∨ 8 ≤ x.f + 1) ∧ ∃ y, bncM x.m site code now = some y ∧ e = .returned (.tuple #[.int .i64 (last + 1), .bool true, .int .i64 0]) ∧ (∃ (p' : Option Addr) (c' : Nat), QR w' b mb site (last + 1) (aset (adel l a) (last + 1) ⟨y, p', c', 0, now⟩)) ∧ Kp (fun k => k = b ∨ k = mb) w w')))
set_option maxHeartbeats 2000000 in
theorem qfail_any (b mb : Nat) (site : ByteArray) (last : Int) (l : List (Int × Qd)) (a now code : Int) (g : Bool) (w : World) (hQ : QR w b mb site last l) (ha : I64 a) (hcode : I64 code) (hlast : 0 ≤ last ∧ last ≤ 4611686018427387904) (hT : GT w) :
    Calls Tryz.prog 20 #[.pointer (some ⟨b, 0, none⟩), .int .i64 a, .int .i64 now, .int .i64 code, .bool g] w fun e w' => FailP w w' b mb site last l a now code g e := by
  refine vc_qfail b 0 a now code g w _ ⟨some mb, cell_at hQ.blk rfl, ?_⟩
  have hlk := hQ.look ha
  cases hg : aget l a with
  | none =>
    rw [hg] at hlk
    refine ⟨_, _, _, _, _, _, _, _, _, _, _, _, _, false, hlk, fun n1 => bsp_intro (fun _ => fun W hW => ?_) (fun h => by cases h)⟩
    exact .inl ⟨hg, rfl, hW.kk rfl⟩
  | some x =>
    rw [hg] at hlk
    have hlk : LookP Tryz.prog 104 (.map (some mb)) (.int .i64 a) true (.tuple #[qdV x, .bool true]) w := hlk
    obtain ⟨hx0, hx1, hx2, hx3⟩ := hQ.ok a x hg
    obtain ⟨hxs, hxd⟩ := hQ.str a x hg
    have hp7 := pow7 x.f.toNat (by omega)
    refine ⟨_, _, _, _, _, _, _, _, _, _, _, _, _, true, hlk, fun n1 => bsp_intro (fun h => by cases h) (fun _ => ?_)⟩
    have e1 : IntKind.i64.wrap (x.f + 1) = x.f + 1 := wr64 (by omega) (by omega)
    have e2 : IntKind.i64.wrap (x.f + 1 - 1) = x.f := by rw [wr64 (by omega) (by omega)]; omega
    have e3 : min x.f.toNat 64 = x.f.toNat := by omega
    rw [e1, e2, e3]
    refine bsp_intro (fun h => fun W hW => ?_) (fun h => ?_)
    · exact .inr ⟨x, hg, .inl ⟨by simpa using h, rfl, hW.kk rfl⟩⟩
    have hmin : minB now = true := by simpa using h
    have hmin' := hmin
    simp only [minB, Bool.and_eq_true, decide_eq_true_eq] at hmin'
    have e4 : IntKind.i64.wrap (now + IntKind.i64.wrap (5 * 2 ^ x.f.toNat)) = failD x now := by
      unfold failD
      rw [wr64 (x := 5 * 2 ^ x.f.toNat) (by omega) (by omega), wr64 (by omega) (by omega)]
    rw [e4]
    have hbl := block_lt hQ.blk
    have hml := hQ.map.lt
    refine ⟨x.f + 1, gimp_intro fun _ => fun W hW => cell_at (hW.cells 0 rfl) rfl, bsp_intro (fun hb => ?_) (fun hb => ?_)⟩
    · simp only [Bool.and_eq_true, Bool.not_eq_true', decide_eq_true_eq] at hb
      refine ⟨Int.nonneg_def.2 ⟨x.f.toNat, by omega⟩, some mb, fun W hW => cell_at ((hW.kk rfl : K0 w W).blk hQ.blk (fun h => h)) rfl, fun W hW => ?_⟩
      have kW : K0 w W := hW.kk rfl
      have gn : w.heap.size ≤ n1 := hW.fresh 0 rfl rfl
      obtain ⟨w1, hu, hQ1, k1⟩ := (hQ.k0 kW).upd ha ⟨x.m, x.p, x.c, x.f + 1, failD x now⟩ (hxs.k0 kW) hxd ⟨hx0, hx1, by show 0 ≤ x.f + 1; omega, by show x.f + 1 ≤ 7; omega⟩
      exact ⟨w1, hu, .of_kp k1 (fun y hy e => by simp at hy; omega), .inr ⟨x, hg, .inr (.inl ⟨hmin, hb.1, hb.2, rfl, hQ1, (Kp.mono kW (fun _ _ h => h.elim)).trans (k1.mono fun _ _ h => .inr h)⟩)⟩⟩
    · have hb' : g = true ∨ 8 ≤ x.f + 1 := by
        cases g with
        | true => exact .inl rfl
        | false => simp at hb; exact .inr (by omega)
      refine ⟨some mb, fun W hW => cell_at ((hW.kk rfl : K0 w W).blk hQ.blk (fun h => h)) rfl, fun W hW => ?_⟩
      have kW : K0 w W := hW.kk rfl
      have gn : w.heap.size ≤ n1 := hW.fresh 0 rfl rfl
      obtain ⟨w1, hu, hQ1, k1⟩ := (hQ.k0 kW).del ha
      refine ⟨w1, hu, .of_kp k1 (fun y hy e => by simp at hy; omega), fun W2 hW2 => ?_⟩
      have k2 : K0 w1 W2 := hW2.kk rfl
      have hQ2 := hQ1.k0 k2
      have hn2 : W2.heap[n1]? = some (.cells #[.string x.m.fu, .string x.m.fs, .string x.m.tu, .string x.m.ts, .int .i64 x.m.n, .int .i64 x.m.d, .string x.m.sj, .slice x.p x.m.hops.length x.c, .string x.m.bd, .int .i64 (x.f + 1), .int .i64 x.due] 110 (0, 0)) := hW2.cells 0 rfl
      have hxs2 : StrP W2 x.p x.m.hops := ((hxs.k0 kW).kp k1 (fun g o hg e => (hxd g o hg).2 e)).k0 k2
      have kk : Kp (fun k => k = b ∨ k = mb) w W2 := ((Kp.mono kW (fun _ _ h => h.elim)).trans (k1.mono fun _ _ h => .inr h)).trans (Kp.mono k2 (fun _ _ h => h.elim))
      have hgt : ∀ M : Nat → Prop, True := fun _ => trivial
      have hT2 : GT W2 := GT_kp hT kk hQ
      obtain ⟨z1, z2, z3, z4, z5, z6, z7, z8, z9, z10, z11, z12⟩ := chkM_bd hx0
      have hbn : ∀ wx, K0 W2 wx → _ := fun wx k => bounce_any x.m x.p x.c site code now wx (hxs2.k0 k) hx1 (by omega) (by omega) (hT2.k0 k) hcode
      refine ⟨fun wx => K0 W2 wx, .refl _ _, x.m.fu, x.m.fs, x.m.tu, x.m.ts, x.m.n, x.m.d, x.m.sj, x.p, x.m.hops.length, x.c, x.m.bd, fun wx k => AtL_block (k.blk hn2 (fun h => h)) rfl, site, fun wx k => cell_at (k.blk hQ2.blk (fun h => h)) rfl, ?_⟩
      refine ⟨⟨(hbn W2 (.refl _ _)).mono fun e w5 ⟨he, k5⟩ => ⟨_, _, _, _, _, _, _, _, _, _, _, _, he, fun n2 w6 hn => ⟨k5.trans (hn.kp _), WrL_block hn.block (Nat.le_refl 9), fun w7 hp => pk (put_k0 (k5.trans (hn.kp _)) hp (Nat.le_trans k5.size hn.ge)) (hp.full hn.block rfl) fun k7 hb7 => ?_⟩⟩⟩, fun n2 w5 hn => ⟨hn.kp _, ⟨(hbn w5 (hn.kp _)).mono fun e w6 ⟨he, k6⟩ => ⟨_, _, _, _, _, _, _, _, _, _, _, _, he, WrL_block (k6.blk hn.block (fun h => h)) (Nat.le_refl 9), fun w7 hp => pk (put_k0 ((hn.kp _).trans k6) hp hn.ge) (hp.full (k6.blk hn.block (fun h => h)) rfl) fun k7 hb7 => ?_⟩⟩⟩⟩
      all_goals
        refine ⟨.of_k0 k7, bsp_intro (fun h => ?_) (fun h => ?_)⟩
        · have hnone : bncM x.m site code now = none := by
            cases hq : bncM x.m site code now with
            | none => rfl
            | some y => rw [hq] at h; cases h
          exact .inr ⟨x, hg, .inr (.inr (.inl ⟨hmin, hb', hnone, rfl, hQ2.k0 k7, kk.trans (Kp.mono k7 (fun _ _ h => h.elim))⟩))⟩
        · cases hq : bncM x.m site code now with
          | none => rw [hq] at h; cases h
          | some y =>
            rw [hq] at hb7
            obtain ⟨hy0, hyh, _⟩ := bnc_ok hcode hq
            have hys : StrP w7 none y.hops := by rw [hyh]; intro k z hk; simp at hk
            refine ⟨_, _, _, _, _, _, _, _, _, _, _, AtL_block hb7 rfl, ⟨(qapp_any b mb site last (adel l a) y none 0 now w7 (hQ2.k0 k7) hys (fun _ _ h => by cases h) hy0 hlast).mono fun e w8 ⟨he, hq8, k8⟩ => ⟨_, he, .of_kp k8 (fun z hz e => by simp at hz; omega), ?_⟩⟩⟩
            exact .inr ⟨x, hg, .inr (.inr (.inr ⟨hmin, hb', y, hq, rfl, hq8, (kk.trans (Kp.mono k7 (fun _ _ h => h.elim))).trans k8⟩))⟩

end Go.Proofs.YtmlmdljnfokebaaGreatDoor
