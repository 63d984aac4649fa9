/- Chapter 49: the contracts of the program's parser of a header: word, body. No condition but sizes. -/
import Derived.Test.YtmlmdljnfokebaaGreatDoorZ10
import Derived.Test.YtmlmdljnfokebaaGreatDoorProg
import Derived.Test.YtmlmdljnfokebaaGreatDoorZ02
import Derived.Test.YtmlmdljnfokebaaGreatDoorZ04
import Derived.KernelRfl
namespace Go.Proofs.YtmlmdljnfokebaaGreatDoor
open Go.RowKit

/-! ### The last field's body -/
/-- A cell of an own row is written. -/
theorem own_putL {w : World} {base : Nat} {e : TypeId} {L n c : Nat} {p : Option Addr} {xs : List Value} (h : w.ownsRow base e L (.slice p n c) n xs) {k : Nat} (hk : k < xs.length) :
    ∃ g, p = some ⟨g, 0, none⟩ ∧ (Value.slice p n c).ownBlock = some g ∧ ((∃ u, w.cell? ⟨g, k, none⟩ = some u) ∧ w.frozen? ⟨g, k, none⟩ = false) ∧
      ∀ (v : Value) (w1 : World), PutB w g k [v] w1 → w1.ownsRow base e L (.slice p n c) n (xs.set k v) := by
  have hl := h.1
  rcases h.2 with ⟨_, hn⟩ | ⟨g, cap, cur, he, hb, hg, hnc, hcm, hsz, ht⟩
  · subst hn; omega
  · simp only [Value.slice.injEq, true_and] at he
    obtain ⟨rfl, rfl⟩ := he
    have hm : n * L ≤ c * L := Nat.mul_le_mul_right _ hnc
    have hkc : k < cur.size := by rw [hsz]; omega
    refine ⟨g, rfl, rfl, cell_wr hg hkc, fun v w1 hp => ⟨by rw [List.length_set]; exact hl, .inr ⟨g, _, _, rfl, hb, hp.block hg, hnc, hcm, ?_, ?_⟩⟩⟩
    · simp only [putL, List.size_toArray, List.length_set, Array.length_toList]; exact hsz
    · simp only [putL]
      rw [← ht, List.take_set]
theorem out_snoc {out : List Fd} (h : 0 < out.length) : ∃ (init : List Fd) (x : Fd), out = init ++ [x] :=
  ⟨out.dropLast, out.getLast (List.ne_nil_of_length_pos h), (List.dropLast_concat_getLast (List.ne_nil_of_length_pos h)).symm⟩
theorem setL_len (out : List Fd) (b : ByteArray) : (setL out b).length = out.length := by
  unfold setL
  split
  · rw [List.length_set]
  · rfl
theorem lastB_setL {out : List Fd} (h : 0 < out.length) (b : ByteArray) : lastB (setL out b) = b := by
  obtain ⟨init, x, rfl⟩ := out_snoc h
  rw [setL_snoc, lastB_snoc]
theorem setL_setL {out : List Fd} (h : 0 < out.length) (b c : ByteArray) : setL (setL out b) c = setL out c := by
  obtain ⟨init, x, rfl⟩ := out_snoc h
  rw [setL_snoc, setL_snoc, setL_snoc]
theorem fC_len (x : Fd) : (fC x).length = 2 := rfl
theorem flat_setL {out : List Fd} (h : 0 < out.length) (b : ByteArray) : (setL out b).flatMap fC = (out.flatMap fC).set (2 * (out.length - 1) + 1) (.string b) := by
  obtain ⟨init, x, rfl⟩ := out_snoc h
  rw [setL_snoc, List.flatMap_append, List.flatMap_append, List.length_append, List.length_singleton, Nat.add_sub_cancel]
  have hl : (init.flatMap fC).length = init.length * 2 := len_flat fC 2 init (fun y _ => fC_len y)
  rw [List.set_append_right _ _ (by omega), show 2 * init.length + 1 - (init.flatMap fC).length = 1 by omega]
  rfl
theorem flat_lastB {out : List Fd} (h : 0 < out.length) : (out.flatMap fC)[2 * (out.length - 1) + 1]? = some (.string (lastB out)) := by
  obtain ⟨init, x, rfl⟩ := out_snoc h
  rw [lastB_snoc, List.flatMap_append, List.length_append, List.length_singleton, Nat.add_sub_cancel]
  have hl : (init.flatMap fC).length = init.length * 2 := len_flat fC 2 init (fun y _ => fC_len y)
  rw [List.getElem?_append_right (by omega), show 2 * init.length + 1 - (init.flatMap fC).length = 1 by omega]
  rfl
/-- The last field's body in the memory: where it lies, how it is written. -/
theorem PsR.last {w : World} {B b : Nat} {s : ByteArray} {fr to_ at_ : Int} {p : Option Addr} {c : Nat} {out : List Fd} {er : Int} (h : PsR w B b s fr to_ at_ p c out er) {n : Nat} (hn : out.length = n) (h0 : 0 < n) {g : Nat} (hp : p = some ⟨g, 0, none⟩) :
    B ≤ g ∧ g ≠ b ∧ w.cell? ⟨g, 0 + (n - 1) * 2 + 1, none⟩ = some (.string (lastB out)) ∧ ((∃ u, w.cell? ⟨g, 0 + (n - 1) * 2 + 1, none⟩ = some u) ∧ w.frozen? ⟨g, 0 + (n - 1) * 2 + 1, none⟩ = false) ∧
      ∀ (x : ByteArray) (w1 : World), PutB w g (0 + (n - 1) * 2 + 1) [.string x] w1 → PsR w1 B b s fr to_ at_ p c (setL out x) er := by
  subst hn
  have hl : (out.flatMap fC).length = out.length * 2 := len_flat fC 2 out (fun y _ => fC_len y)
  have e : 0 + (out.length - 1) * 2 + 1 = 2 * (out.length - 1) + 1 := by omega
  rw [e]
  obtain ⟨g', hp', hg, hw, hs⟩ := own_putL h.row (k := 2 * (out.length - 1) + 1) (by omega)
  rw [hp] at hp'
  cases hp'
  have hB := own_ge h.row hg
  have hb := h.lt
  obtain ⟨g', hp', hc⟩ := own_cellL h.row (flat_lastB h0)
  rw [hp] at hp'
  cases hp'
  refine ⟨hB, by omega, hc, hw, fun x w1 hpt => ⟨?_, ?_, hb, Nat.le_trans h.le hpt.kp.size⟩⟩
  · rw [setL_len]
    exact hpt.kp.blk h.blk (fun e => by have e : b = g := e; omega)
  · rw [setL_len, flat_setL h0]
    exact hs _ _ hpt
theorem PsR.ptr {w : World} {B b : Nat} {s : ByteArray} {fr to_ at_ : Int} {p : Option Addr} {c : Nat} {out : List Fd} {er : Int} (h : PsR w B b s fr to_ at_ p c out er) (h0 : 0 < out.length) : ∃ g, p = some ⟨g, 0, none⟩ := by
  obtain ⟨g, hp, _⟩ := own_cellL h.row (flat_lastB h0)
  exact ⟨g, hp⟩
/-- The place that the parser has reached, and the error, as measures. -/
def atM (w : World) (b t : Nat) : Nat := match w.cell? ⟨b, 3, none⟩ with | some (.int _ x) => t - x.toNat | _ => 0
theorem PsR.atM {w : World} {B b : Nat} {s : ByteArray} {fr to_ at_ : Int} {p : Option Addr} {c : Nat} {out : List Fd} {er : Int} (h : PsR w B b s fr to_ at_ p c out er) (t : Nat) : atM w b t = t - at_.toNat := by
  unfold Go.Proofs.YtmlmdljnfokebaaGreatDoor.atM
  rw [cell_at (o := 3) (v := .int .i64 at_) h.blk rfl]

/-! ### The next word -/
theorem word_none {l : ByteArray} {i : Nat} (h : skipN blankB l i = l.size) : WF l i = [] ∧ bigP l i = none := by
  rcases Nat.lt_or_ge i l.size with hlt | hge
  · have c := skipN_to blackB l (i := l.size) (Nat.le_refl _)
    have e2 : skipN blackB l l.size = l.size := by have := c.1; have := c.2.1; omega
    refine ⟨?_, ?_⟩
    · rw [WF_step hlt, h, e2, if_neg (by omega), WF_end (Nat.le_refl _)]
    · rw [bigP_step hlt, h, e2, if_neg (by omega), bigP_end (Nat.le_refl _)]
  · exact ⟨WF_end hge, bigP_end hge⟩
theorem word_some {l : ByteArray} {i : Nat} (hi : i ≤ l.size) (h : skipN blankB l i < l.size) : i ≤ skipN blankB l i ∧ skipN blankB l i < skipN blackB l (skipN blankB l i) ∧ skipN blackB l (skipN blankB l i) ≤ l.size ∧
    WF l i = l.extract (skipN blankB l i) (skipN blackB l (skipN blankB l i)) :: WF l (skipN blackB l (skipN blankB l i)) ∧
    bigP l i = (if 900 < skipN blackB l (skipN blankB l i) - skipN blankB l i then some (skipN blankB l i) else bigP l (skipN blackB l (skipN blankB l i))) := by
  have a := skipN_to blankB l hi
  have b := skipN_to blackB l a.2.1
  have hlt : skipN blankB l i < skipN blackB l (skipN blankB l i) := by
    rcases Nat.lt_or_ge (skipN blankB l i) (skipN blackB l (skipN blankB l i)) with h1 | h1
    · exact h1
    · have e : skipN blackB l (skipN blankB l i) = skipN blankB l i := by have := b.1; omega
      have f1 := a.2.2.2 h
      have f2 := b.2.2.2 (by omega)
      rw [e] at f2
      unfold blackB at f2
      rw [f1] at f2
      cases f2
  have h0 : i < l.size := by have := a.1; omega
  exact ⟨a.1, hlt, b.2.1, by rw [WF_step h0, if_pos hlt], by rw [bigP_step h0, if_pos hlt]⟩
theorem setL_self {out : List Fd} (h : 0 < out.length) : setL out (lastB out) = out := by
  obtain ⟨init, x, rfl⟩ := out_snoc h
  rw [setL_snoc, lastB_snoc]

/-- A place is written. -/
theorem PsR.put3 {w w1 : World} {B b : Nat} {s : ByteArray} {fr to_ at_ x : Int} {p : Option Addr} {c : Nat} {out : List Fd} {er : Int} (h : PsR w B b s fr to_ at_ p c out er) (hp : PutB w b (0 + 3) [.int .i64 x] w1) : PsR w1 B b s fr to_ x p c out er :=
  ⟨by rw [hp.block h.blk]; rfl, h.rowP hp.kp, h.lt, h.leP hp.kp⟩

/-! ### A word -/
theorem pword_err {w : World} {B b : Nat} {s : ByteArray} {fr to_ at_ : Int} {p : Option Addr} {c : Nat} {out : List Fd} {er : Int} (h : PsR w B b s fr to_ at_ p c out er) (he : er ≠ 0) :
    Calls Tryz.prog 111 #[.pointer (some ⟨b, 0, none⟩)] w fun e w' => e = .returned (.bool false) ∧ K0 w w' := by
  refine vc_pword b 0 w _ ⟨fun vs w' => vs = [] ∧ K0 w w', fun _ _ => 0, ⟨rfl, .refl _ _⟩, ?_⟩
  rintro w1 ⟨_, k1⟩
  have hb : (er == 0) = false := by simpa using he
  have cW : ∀ W : World, Loc w.heap.size [] w1 W → PsR W B b s fr to_ at_ p c out er := fun W hW => (h.k0 k1).k0 (hW.kk rfl)
  refine ⟨er, fun W hW => cell_at (cW W hW).blk rfl, 0, gimp_intro fun h => (by rw [hb] at h; cases h), 0, gimp_intro fun h => (by rw [hb] at h; cases h), ⟨#[]⟩, gimp_intro fun h => (by rw [hb] at h; cases h), 0, gimp_intro fun h => (by rw [hb] at h; cases h), gimp_intro fun h => (by rw [hb] at h; cases h), bsp_intro (fun h => by rw [hb] at h; cases h) (fun _ => ?_)⟩
  refine ⟨er, fun W hW => cell_at (cW W hW).blk rfl, 0, gimp_intro fun h => ?_, 0, gimp_intro fun h => ?_, bsp_intro (fun _ => fun W hW => ⟨rfl, k1.trans (hW.kk rfl)⟩) (fun h => ?_)⟩
  · simp at h; exact absurd h he
  · simp at h; exact absurd h he
  · simp at h
set_option maxHeartbeats 4000000 in
theorem pword_any {w : World} {B b : Nat} {s : ByteArray} {p : Option Addr} {c : Nat} {out : List Fd} {a t i : Nat} (h : PsR w B b s (a : Int) (t : Int) ((a + i : Nat) : Int) p c out 0) (hat : a ≤ t) (ht : t ≤ s.size) (hs : s.size ≤ 65536) (hi : i ≤ (s.extract a t).size) (h0 : 0 < out.length) (hz : (lastB out).size ≤ 1073741824) (hol : out.length ≤ 64) :
    Calls Tryz.prog 111 #[.pointer (some ⟨b, 0, none⟩)] w fun e w' => ((e = .returned (.bool false) ∧ WF (s.extract a t) i = [] ∧ bigP (s.extract a t) i = none ∧ PsR w' B b s (a : Int) (t : Int) (t : Int) p c out 0) ∨
      (e = .returned (.bool false) ∧ ∃ j, bigP (s.extract a t) i = some j ∧ PsR w' B b s (a : Int) (t : Int) ((a + j : Nat) : Int) p c out 5) ∨
      (e = .returned (.bool true) ∧ ∃ (k : Nat) (wd : ByteArray), i < k ∧ k ≤ (s.extract a t).size ∧ WF (s.extract a t) i = wd :: WF (s.extract a t) k ∧ bigP (s.extract a t) i = bigP (s.extract a t) k ∧ wd.size ≤ k - i ∧ PsR w' B b s (a : Int) (t : Int) ((a + k : Nat) : Int) p c (setL out (addB (lastB out) wd)) 0)) ∧ Kp (KB B b) w w' := by
  have hll : (s.extract a t).size = t - a := by rw [ByteArray.size_extract]; omega
  have hat8 : ∀ j, j < t - a → at8 (s.extract a t) j = at8 s (a + j) := fun j hj => at8_extract s a t j (by omega) ht
  have hext : ∀ i k, i ≤ k → k ≤ t - a → s.extract (a + i) (a + k) = (s.extract a t).extract i k := fun i k h1 h2 => by
    rw [ByteArray.extract_extract]; congr 1; omega
  generalize s.extract a t = l at *
  obtain ⟨g, hp⟩ := h.ptr h0
  refine vc_pword b 0 w _ ⟨fun vs w' => vs = [] ∧ ∃ k, i ≤ k ∧ k ≤ l.size ∧ (∀ j, i ≤ j → j < k → blankB (at8 l j) = true) ∧ PsR w' B b s (a : Int) (t : Int) ((a + k : Nat) : Int) p c out 0 ∧ Kp (KB B b) w w',
    fun _ w' => atM w' b t, ⟨rfl, i, Nat.le_refl _, hi, (fun j h1 h2 => by omega), h, .refl _ _⟩, ?_⟩
  rintro w1 ⟨_, k, hik, hk, hall, h1, k1⟩
  have cW : ∀ W : World, Loc w.heap.size [] w1 W → PsR W B b s (a : Int) (t : Int) ((a + k : Nat) : Int) p c out 0 := fun W hW => h1.k0 (hW.kk rfl)
  refine ⟨0, fun W hW => cell_at (cW W hW).blk rfl, ((a + k : Nat) : Int), gimp_intro fun _ W hW => cell_at (cW W hW).blk rfl, (t : Int), gimp_intro fun _ W hW => cell_at (cW W hW).blk rfl, s, gimp_intro fun _ W hW => cell_at (cW W hW).blk rfl, ((a + k : Nat) : Int), gimp_intro fun _ W hW => cell_at (cW W hW).blk rfl, ?_⟩
  rw [Int.toNat_natCast]
  refine ⟨gimp_intro fun h => ⟨by omega, by simp at h; omega⟩, bsp_intro (fun hb => ?_) (fun hb => ?_)⟩
  · simp only [beq_self_eq_true, Bool.true_and, Bool.and_eq_true, decide_eq_true_eq] at hb
    have hk2 : k < l.size := by omega
    refine ⟨((a + k : Nat) : Int), fun W hW => cell_at (cW W hW).blk rfl, fun W hW => ⟨cell_wr (cW W hW).blk (by show 3 < 6; omega), fun w2 p2 => ?_⟩⟩
    rw [inc64 (by omega)] at p2
    have h2 := (cW W hW).put3 p2
    refine ⟨.of_kp p2.kp (fun _ hx => by cases hx), ⟨rfl, k + 1, by omega, hk2, fun j j1 j2 => ?_, h2, (k1.trans ((hW.kk rfl : K0 w1 W).mono fun _ _ h => h.elim)).trans (p2.kp.mono fun _ _ e => .inl e)⟩, ?_⟩
    · by_cases e : j = k
      · rw [e, hat8 k (by omega)]; exact hb.2
      · exact hall j j1 (by omega)
    · show atM w2 b t < atM w1 b t; rw [h2.atM, h1.atM]; simp only [Int.toNat_natCast]; omega
  have hst : k < l.size → blankB (at8 l k) = false := fun hk2 => by
    have e : decide (((a + k : Nat) : Int) < (t : Int)) = true := decide_eq_true (by omega)
    rw [e] at hb
    rw [hat8 k (by omega)]
    simpa using hb
  have hsk : skipN blankB l i = k := (skipN_to blankB l hi).uniq ⟨hik, hk, hall, hst⟩
  refine ⟨0, fun W hW => cell_at (cW W hW).blk rfl, ((a + k : Nat) : Int), gimp_intro fun _ W hW => cell_at (cW W hW).blk rfl, (t : Int), gimp_intro fun _ W hW => cell_at (cW W hW).blk rfl, bsp_intro (fun he => fun W hW => ?_) (fun he => ⟨((a + k : Nat) : Int), fun W hW => cell_at (cW W hW).blk rfl, fun W hW => ?_⟩)⟩
  · have e : a + k = t := by simp at he; omega
    have hw := word_none (i := i) (l := l) (by omega)
    have h2 := cW W hW
    rw [e] at h2
    exact ⟨.inl ⟨rfl, hw.1, hw.2, h2⟩, k1.trans ((hW.kk rfl : K0 w1 W).mono fun _ _ h => h.elim)⟩
  have hk2 : k < l.size := by simp at he; omega
  obtain ⟨_, hlt, hle, hWF, hBP⟩ := word_some hi (by omega)
  rw [hsk] at hlt hle hWF hBP
  have hbk := skipN_to blackB l hk
  have kW : K0 w1 W := hW.kk rfl
  have hWs := cW W hW
  have kwW : Kp (KB B b) w W := k1.trans (kW.mono fun _ _ h => h.elim)
  refine ⟨fun vs w' => ∃ j : Nat, vs = [.int .i64 ((a + j : Nat) : Int)] ∧ k ≤ j ∧ j ≤ l.size ∧ (∀ q, k ≤ q → q < j → blackB (at8 l q) = true) ∧ K0 W w',
    fun vs _ => (match vs with | .int _ x :: _ => t - x.toNat | _ => 0), ⟨k, rfl, Nat.le_refl _, hk, (fun q h1 h2 => by omega), .refl _ _⟩, ?_⟩
  rintro x w2 ⟨j, hv, hkj, hj, hall2, k2⟩
  simp only [List.cons.injEq, Value.int.injEq, true_and, and_true] at hv
  subst hv
  have h2 := hWs.k0 k2
  rw [Int.toNat_natCast]
  refine ⟨(t : Int), cell_at h2.blk rfl, s, gimp_intro fun _ => cell_at h2.blk rfl, gimp_intro fun h => ⟨by omega, by simp at h; omega⟩, bsp_intro (fun hc => ?_) (fun hc => ?_)⟩
  · simp only [Bool.and_eq_true, decide_eq_true_eq, Bool.not_eq_true'] at hc
    have hj2 : j < l.size := by omega
    refine ⟨⟨j + 1, by rw [inc64 (by omega)]; rfl, by omega, hj2, fun q q1 q2 => ?_, k2⟩, by rw [inc64 (by omega)]; simp only [Int.toNat_natCast]; omega⟩
    by_cases e : q = j
    · rw [e]; unfold blackB; rw [hat8 j (by omega), hc.2]; rfl
    · exact hall2 q q1 (by omega)
  have hj3 : skipN blackB l k = j := hbk.uniq ⟨hkj, hj, hall2, fun hj2 => by
    have e : decide (((a + j : Nat) : Int) < (t : Int)) = true := decide_eq_true (by omega)
    rw [e] at hc
    unfold blackB
    rw [hat8 j (by omega)]
    simpa using hc⟩
  rw [hj3] at hlt hle hWF hBP
  have kw2 : Kp (KB B b) w w2 := kwW.trans (k2.mono fun _ _ h => h.elim)
  refine ⟨((a + k : Nat) : Int), cell_at h2.blk rfl, ?_⟩
  rw [wr64 (by omega) (by omega)]
  refine bsp_intro (fun h9 => ?_) (fun h9 => ?_)
  · have h9 : 900 < j - k := by simp at h9; omega
    rw [if_pos h9] at hBP
    exact ⟨_, cell_at h2.blk rfl, ⟨(pfail_any h2 ((a + k : Nat) : Int) 5).mono fun e w3 ⟨he, h3, k3⟩ => ⟨he, .of_kp k3 (fun _ hx => by cases hx), .inr (.inl ⟨rfl, k, hBP, h3⟩), kw2.trans (k3.mono fun _ _ e => .inl e)⟩⟩⟩
  have h9 : ¬ 900 < j - k := by simp at h9; omega
  rw [if_neg h9] at hBP
  have c2 : ∀ W : World, Loc w.heap.size [] w2 W → PsR W B b s (a : Int) (t : Int) ((a + k : Nat) : Int) p c out 0 := fun W hW => h2.k0 (hW.kk rfl)
  have en : IntKind.i64.wrap ((out.length : Int) - 1) = ((out.length - 1 : Nat) : Int) := by rw [wr64 (by omega) (by omega)]; omega
  have ew : s.extract (a + k) (a + j) = l.extract k j := hext k j hkj (by omega)
  have esz : (l.extract k j).size = j - k := by rw [ByteArray.size_extract]; omega
  refine ⟨p, out.length, c, fun W hW => cell_at (c2 W hW).blk rfl, p, out.length, c, fun W hW => cell_at (c2 W hW).blk rfl, nn_is hp ?_⟩
  rw [en, Int.toNat_natCast]
  have lst : ∀ {w : World} {o : List Fd} {x : Int}, PsR w B b s (a : Int) (t : Int) x p c o 0 → o.length = out.length → _ := fun {w o x} hh e => hh.last e h0 hp
  refine ⟨⟨by omega, by omega⟩, lastB out, fun W hW => (lst (c2 W hW) rfl).2.2.1, bsp_intro (fun hne => ?_) (fun hne => ?_)⟩
  · have hne : ¬ (lastB out).size = 0 := fun e => by
      have := toList_nil (lastB out)
      rw [decide_eq_true e] at this
      rw [this] at hne; cases hne
    have ea : addB (lastB out) (l.extract k j) = lastB out ++ ⟨#[32]⟩ ++ l.extract k j := by unfold addB; rw [if_neg hne]
    refine ⟨lastB out, fun W hW => (lst (c2 W hW) rfl).2.2.1, nneg (by rw [size_one]; omega), fun W3 hW3 => ⟨(lst (c2 W3 hW3) rfl).2.2.2.1, fun w3 p3 => ⟨.of_kp p3.kp (fun _ hx => by cases hx), ?_⟩⟩⟩
    have h3 := (lst (c2 W3 hW3) rfl).2.2.2.2 _ _ p3
    have hgB := (lst (c2 W3 hW3) rfl).1
    have c3 : ∀ W : World, Loc w.heap.size [] w3 W → PsR W B b s (a : Int) (t : Int) ((a + k : Nat) : Int) p c (setL out (lastB out ++ ⟨#[32]⟩)) 0 := fun W hW => h3.k0 (hW.kk rfl)
    refine ⟨lastB out ++ ⟨#[32]⟩, fun W hW => by have := (lst (c3 W hW) (setL_len _ _)).2.2.1; rw [lastB_setL h0] at this; exact this, s, fun W hW => cell_at (c3 W hW).blk rfl, ((a + k : Nat) : Int), fun W hW => cell_at (c3 W hW).blk rfl, ⟨by omega, by omega, by omega⟩, ?_⟩
    rw [Int.toNat_natCast, ew]
    refine ⟨nneg (by rw [ByteArray.size_append, size_one]; omega), fun W4 hW4 => ⟨(lst (c3 W4 hW4) (setL_len _ _)).2.2.2.1, fun w4 p4 => ⟨.of_kp p4.kp (fun _ hx => by cases hx), ?_⟩⟩⟩
    have h4 := (lst (c3 W4 hW4) (setL_len _ _)).2.2.2.2 _ _ p4
    rw [setL_setL h0] at h4
    refine ⟨cell_wr h4.blk (by show 3 < 6; omega), fun w5 p5 => ⟨.of_kp p5.kp (fun _ hx => by cases hx), .inr (.inr ⟨rfl, j, l.extract k j, by omega, hj, hWF, hBP, by omega, ?_⟩), ?_⟩⟩
    · rw [ea]; exact h4.put3 p5
    · exact (((kw2.trans ((hW3.kk rfl : K0 w2 W3).mono fun _ _ h => h.elim)).trans (p3.kp.mono fun _ _ e => .inr (by rw [e]; exact hgB))).trans ((hW4.kk rfl : K0 w3 W4).mono fun _ _ h => h.elim)).trans ((p4.kp.mono fun _ _ e => .inr (by rw [e]; exact hgB)).trans (p5.kp.mono fun _ _ e => .inl e))
  · have hne : (lastB out).size = 0 := by
      have := toList_nil (lastB out)
      rw [this] at hne
      simpa using hne
    have ea : addB (lastB out) (l.extract k j) = lastB out ++ l.extract k j := by unfold addB; rw [if_pos hne]
    refine ⟨lastB out, fun W hW => (lst (c2 W hW) rfl).2.2.1, s, fun W hW => cell_at (c2 W hW).blk rfl, ((a + k : Nat) : Int), fun W hW => cell_at (c2 W hW).blk rfl, ⟨by omega, by omega, by omega⟩, ?_⟩
    rw [Int.toNat_natCast, ew]
    refine ⟨nneg (by omega), fun W4 hW4 => ⟨(lst (c2 W4 hW4) rfl).2.2.2.1, fun w4 p4 => ⟨.of_kp p4.kp (fun _ hx => by cases hx), ?_⟩⟩⟩
    have h4 := (lst (c2 W4 hW4) rfl).2.2.2.2 _ _ p4
    have hgB := (lst (c2 W4 hW4) rfl).1
    refine ⟨cell_wr h4.blk (by show 3 < 6; omega), fun w5 p5 => ⟨.of_kp p5.kp (fun _ hx => by cases hx), .inr (.inr ⟨rfl, j, l.extract k j, by omega, hj, hWF, hBP, by omega, ?_⟩), ?_⟩⟩
    · rw [ea]; exact h4.put3 p5
    · exact (kw2.trans ((hW4.kk rfl : K0 w2 W4).mono fun _ _ h => h.elim)).trans ((p4.kp.mono fun _ _ e => .inr (by rw [e]; exact hgB)).trans (p5.kp.mono fun _ _ e => .inl e))

/-! ### A line's rest -/
theorem pbody_err {w : World} {B b : Nat} {s : ByteArray} {fr to_ at_ : Int} {p : Option Addr} {c : Nat} {out : List Fd} {er : Int} (h : PsR w B b s fr to_ at_ p c out er) (he : er ≠ 0) :
    Calls Tryz.prog 66 #[.pointer (some ⟨b, 0, none⟩)] w fun e w' => e = .returned (.tuple #[]) ∧ K0 w w' := by
  refine vc_pbody b 0 w _ ⟨fun vs w' => vs = [] ∧ K0 w w', fun _ _ => 0, ⟨rfl, .refl _ _⟩, ?_⟩
  rintro w1 ⟨_, k1⟩
  have hb : (er == 0) = false := by simpa using he
  refine ⟨(pword_err (h.k0 k1) he).mono fun e w2 ⟨he, k2⟩ => ⟨_, he, .of_k0 k2, bsp_intro (fun h => by cases h) (fun _ => ?_)⟩⟩
  have cW : ∀ W : World, Loc w.heap.size [] w2 W → PsR W B b s fr to_ at_ p c out er := fun W hW => (h.k0 (k1.trans k2)).k0 (hW.kk rfl)
  refine ⟨er, fun W hW => cell_at (cW W hW).blk rfl, some ⟨0, 0, none⟩, 0, 0, gimp_intro fun h => (by rw [hb] at h; cases h), none, 0, 0, gimp_intro fun h => (by rw [hb] at h; cases h), nn_is rfl ⟨gimp_intro fun h => (by rw [hb] at h; cases h), ⟨#[]⟩, gimp_intro fun h => (by rw [hb] at h; cases h), bsp_intro (fun h => by rw [hb] at h; cases h) (fun _ => fun W hW => ⟨rfl, (k1.trans k2).trans (hW.kk rfl)⟩)⟩⟩
set_option maxHeartbeats 4000000 in
theorem pbody_any {w : World} {B b : Nat} {s : ByteArray} {p : Option Addr} {c : Nat} {out : List Fd} {a t st : Nat} (h : PsR w B b s (a : Int) (t : Int) ((a + st : Nat) : Int) p c out 0) (hat : a ≤ t) (ht : t ≤ s.size) (hs : s.size ≤ 65536) (hst : st ≤ (s.extract a t).size) (h0 : 0 < out.length) (hz : (lastB out).size ≤ 8192) (hol : out.length ≤ 64) :
    Calls Tryz.prog 66 #[.pointer (some ⟨b, 0, none⟩)] w fun e w' => e = .returned (.tuple #[]) ∧ ((∃ (j : Nat) (er : Int) (out' : List Fd), er ≠ 0 ∧ bodyP (s.extract a t) st out = .inl (j, er) ∧ PsR w' B b s (a : Int) (t : Int) ((a + j : Nat) : Int) p c out' er) ∨
      ∃ out', bodyP (s.extract a t) st out = .inr out' ∧ out'.length = out.length ∧ (lastB out').size ≤ 8192 ∧ PsR w' B b s (a : Int) (t : Int) (t : Int) p c out' 0) ∧ Kp (KB B b) w w' := by
  have hsz : (s.extract a t).size ≤ s.size := by rw [ByteArray.size_extract]; omega
  have hta : (s.extract a t).size = t - a := by rw [ByteArray.size_extract]; omega
  obtain ⟨g, hp⟩ := h.ptr h0
  refine vc_pbody b 0 w _ ⟨fun vs w' => vs = [] ∧ ∃ (i : Nat) (bd : ByteArray), i ≤ (s.extract a t).size ∧ bigP (s.extract a t) st = bigP (s.extract a t) i ∧ joinW (lastB out) (WF (s.extract a t) st) = joinW bd (WF (s.extract a t) i) ∧ bd.size + 2 * ((s.extract a t).size - i) ≤ 200000 ∧ PsR w' B b s (a : Int) (t : Int) ((a + i : Nat) : Int) p c (setL out bd) 0 ∧ Kp (KB B b) w w',
    fun _ w' => atM w' b t, ⟨rfl, st, lastB out, hst, rfl, rfl, by omega, by rw [setL_self h0]; exact h, .refl _ _⟩, ?_⟩
  rintro w1 ⟨_, i, bd, hi, hB, hJ, hzz, h1, k1⟩
  have hlen : (setL out bd).length = out.length := setL_len _ _
  have hlb : lastB (setL out bd) = bd := lastB_setL h0 bd
  have hwc := pword_any h1 hat ht hs hi (by omega) (by rw [hlb]; omega) (by omega)
  rw [hlb] at hwc
  generalize s.extract a t = l at *
  refine ⟨hwc.mono fun e w2 ⟨hQ, k2⟩ => ?_⟩
  rcases hQ with ⟨he, hw, hb, h2⟩ | ⟨he, j, hb, h2⟩ | ⟨he, k, wd, hik, hk, hw, hb, hwz, h2⟩
  · refine ⟨_, he, ⟨k2.size, fun _ hx => by cases hx⟩, bsp_intro (fun h => by cases h) (fun _ => ?_)⟩
    rw [hw] at hJ
    rw [hb] at hB
    have hJ : joinW (lastB out) (WF l st) = bd := hJ
    have cW : ∀ W : World, Loc w.heap.size [] w2 W → PsR W B b s (a : Int) (t : Int) (t : Int) p c (setL out bd) 0 := fun W hW => h2.k0 (hW.kk rfl)
    have en : IntKind.i64.wrap ((out.length : Int) - 1) = ((out.length - 1 : Nat) : Int) := by rw [wr64 (by omega) (by omega)]; omega
    have hbl : ∀ W : World, Loc w.heap.size [] w2 W → W.cell? ⟨b, 0 + 4, none⟩ = some (.slice p out.length c) := fun W hW => by rw [← hlen]; exact cell_at (cW W hW).blk rfl
    refine ⟨0, fun W hW => cell_at (cW W hW).blk rfl, p, out.length, c, gimp_intro fun _ W hW => hbl W hW, p, out.length, c, gimp_intro fun _ W hW => hbl W hW, nn_is hp ?_⟩
    rw [en, Int.toNat_natCast]
    refine ⟨gimp_intro fun _ => ⟨by omega, by omega⟩, bd, gimp_intro fun _ W hW => ?_, bsp_intro (fun h8 => ⟨_, fun W hW => cell_at (cW W hW).blk rfl, fun W hW => ?_⟩) (fun h8 => fun W hW => ?_)⟩
    · have := ((cW W hW).last hlen h0 hp).2.2.1
      rw [hlb] at this
      exact this
    · have h8 : 8192 < bd.size := by simp at h8; omega
      have e : bodyP l st out = .inl (0, 5) := by unfold bodyP; rw [hB]; simp only [hJ]; rw [if_pos h8]
      exact ⟨(pfail_any (cW W hW) (a : Int) 5).mono fun e' w3 ⟨he, h3, k3⟩ => ⟨he, .of_kp k3 (fun _ hx => by cases hx), rfl, .inl ⟨0, 5, _, by decide, e, h3⟩, ((k1.trans k2).trans ((hW.kk rfl : K0 w2 W).mono fun _ _ h => h.elim)).trans (k3.mono fun _ _ e => .inl e)⟩⟩
    · have h8 : ¬ 8192 < bd.size := by simp at h8; omega
      have e : bodyP l st out = .inr (setL out bd) := by unfold bodyP; rw [hB]; simp only [hJ]; rw [if_neg h8]
      exact ⟨rfl, .inr ⟨_, e, hlen, by rw [hlb]; omega, cW W hW⟩, (k1.trans k2).trans ((hW.kk rfl : K0 w2 W).mono fun _ _ h => h.elim)⟩
  · refine ⟨_, he, ⟨k2.size, fun _ hx => by cases hx⟩, bsp_intro (fun h => by cases h) (fun _ => ?_)⟩
    rw [hb] at hB
    have e : bodyP l st out = .inl (j, 5) := by unfold bodyP; rw [hB]
    have cW : ∀ W : World, Loc w.heap.size [] w2 W → PsR W B b s (a : Int) (t : Int) ((a + j : Nat) : Int) p c (setL out bd) 5 := fun W hW => h2.k0 (hW.kk rfl)
    refine ⟨5, fun W hW => cell_at (cW W hW).blk rfl, p, 0, 0, gimp_intro fun h => by (simp at h), none, 0, 0, gimp_intro fun h => by (simp at h), nn_is hp ⟨gimp_intro fun h => by (simp at h), ⟨#[]⟩, gimp_intro fun h => by (simp at h), bsp_intro (fun h => by simp at h) (fun _ => fun W hW => ?_)⟩⟩
    exact ⟨rfl, .inl ⟨j, 5, _, by decide, e, cW W hW⟩, (k1.trans k2).trans ((hW.kk rfl : K0 w2 W).mono fun _ _ h => h.elim)⟩
  · refine ⟨_, he, ⟨k2.size, fun _ hx => by cases hx⟩, bsp_intro (fun _ => ⟨⟨rfl, k, addB bd wd, hk, by rw [hB, hb], by rw [hJ, hw]; rfl, ?_, by rw [setL_setL h0] at h2; exact h2, k1.trans k2⟩, ?_⟩) (fun h => by cases h)⟩
    · have : (addB bd wd).size ≤ bd.size + 1 + wd.size := by
        unfold addB
        split <;> simp only [ByteArray.size_append, size_one] <;> omega
      omega
    · show atM w2 b t < atM w1 b t; rw [h2.atM, h1.atM]; simp only [Int.toNat_natCast]; omega

end Go.Proofs.YtmlmdljnfokebaaGreatDoor

/- Chapter 49: the contract of the program's field.Parse. No condition but sizes. -/
namespace Go.Proofs.YtmlmdljnfokebaaGreatDoor
open Go.RowKit

section
variable {w : World} {B b : Nat} {s : ByteArray} {fr to_ at_ : Int} {p : Option Addr} {c : Nat} {out : List Fd} {er : Int}
theorem pline_err (h : PsR w B b s fr to_ at_ p c out er) (he : er ≠ 0) (x : Int) :
    Calls Tryz.prog 64 #[.pointer (some ⟨b, 0, none⟩), .int .i64 x] w fun e w' => e = .returned (.tuple #[]) ∧ K0 w w' :=
  vc_pline b 0 x w _ ⟨er, cell_at h.blk rfl, bsp_intro (fun _ => ⟨rfl, .refl _ _⟩) (fun hn => by simp at hn; exact absurd hn he)⟩
theorem pname_err (h : PsR w B b s fr to_ at_ p c out er) (he : er ≠ 0) :
    Calls Tryz.prog 65 #[.pointer (some ⟨b, 0, none⟩)] w fun e w' => e = .returned (.tuple #[]) ∧ K0 w w' :=
  vc_pname b 0 w _ ⟨er, cell_at h.blk rfl, bsp_intro (fun _ => ⟨rfl, .refl _ _⟩) (fun hn => by simp at hn; exact absurd hn he)⟩
def erM (w : World) (b n : Nat) : Nat := match w.cell? ⟨b, 5, none⟩ with | some (.int _ x) => (if x = 0 then n else 0) | _ => 0
theorem PsR.erM (h : PsR w B b s fr to_ at_ p c out er) (n : Nat) : erM w b n = if er = 0 then n else 0 := by
  unfold Go.Proofs.YtmlmdljnfokebaaGreatDoor.erM
  rw [cell_at (o := 5) (v := .int .i64 er) h.blk rfl]
end
theorem lineP_pre {l : ByteArray} {out : List Fd} (h : 998 < l.size) : lineP l out = .inl (998, 5) := by unfold lineP; rw [if_pos h]
theorem lineP_byte {l : ByteArray} {out : List Fd} (h : l.size ≤ 998) (h2 : skipN okB l 0 < l.size) : lineP l out = .inl (skipN okB l 0, 6) := by unfold lineP; rw [if_neg (by omega), if_pos h2]
/-- What holds of the parser between two lines, or after an error. -/
def GoodS (w : World) (B b : Nat) (s : ByteArray) (x : Int) : Prop := ∃ (a : Nat) (fr to_ at_ : Int) (p : Option Addr) (c : Nat) (out : List Fd), x = (a : Int) ∧ a ≤ s.size ∧ PsR w B b s fr to_ at_ p c out 0 ∧ prsR s a out = prsR s 0 [] ∧ out.length ≤ 64 ∧ (lastB out).size ≤ 8192
def BadS (w : World) (B b : Nat) (s : ByteArray) : Prop := ∃ (fr to_ at_ : Int) (p : Option Addr) (c : Nat) (out : List Fd) (er : Int), er ≠ 0 ∧ PsR w B b s fr to_ at_ p c out er ∧ prsR s 0 [] = ([], at_, er)
theorem BadS.k0 {w w' : World} {B b : Nat} {s : ByteArray} (h : BadS w B b s) (hk : K0 w w') : BadS w' B b s := by
  obtain ⟨fr, to_, at_, p, c, out, er, h1, h2, h3⟩ := h
  exact ⟨fr, to_, at_, p, c, out, er, h1, h2.k0 hk, h3⟩
set_option maxHeartbeats 4000000 in
theorem fparse_any (s : ByteArray) (w : World) :
    Calls Tryz.prog 32 #[.string s] w fun e w' => (∃ (p : Option Addr) (c : Nat), e = .returned (.tuple #[.slice p (prs s).1.length c, .int .i64 (prs s).2.1, .int .i64 (prs s).2.2]) ∧ w'.ownsRow w.heap.size 96 2 (.slice p (prs s).1.length c) (prs s).1.length ((prs s).1.flatMap fC)) ∧ K0 w w' := by
  refine vc_fparse s w _ (bsp_intro (fun hbig => ?_) (fun hbig => fun n W hW => ?_))
  · have hbig : 65536 < s.size := by simp at hbig; omega
    have e : prs s = ([], 65536, 5) := by unfold prs; rw [if_pos hbig]
    rw [e]
    exact ⟨⟨none, 0, rfl, rfl, .inl ⟨rfl, rfl⟩⟩, .refl _ _⟩
  have hs : s.size ≤ 65536 := by simp at hbig; omega
  have e0 : prs s = prsR s 0 [] := by unfold prs; rw [if_neg (by omega)]; rfl
  rw [e0]
  have kW : K0 w W := hW.kk rfl
  have gn : w.heap.size ≤ n := hW.fresh 0 rfl rfl
  have hb := hW.cells 0 rfl
  have hn := block_lt hb
  simp only at hn
  have hP : PsR W (n + 1) n s 0 0 0 none 0 [] 0 := ⟨hb, ⟨rfl, .inl ⟨rfl, rfl⟩⟩, by omega, by omega⟩
  have fin : ∀ w', Kp (KB (n + 1) n) W w' → K0 w w' := fun w' hk => kW.fresh hk (fun j hj e => by rcases e with e | e <;> omega)
  refine ⟨fun vs w' => (∃ x : Int, vs = [.int .i64 x] ∧ (GoodS w' (n + 1) n s x ∨ BadS w' (n + 1) n s)) ∧ Kp (KB (n + 1) n) W w',
    fun vs w' => (match vs with | .int _ x :: _ => erM w' n (s.size - x.toNat + 1) | _ => 0), ⟨⟨0, rfl, .inl ⟨0, 0, 0, 0, none, 0, [], rfl, Nat.zero_le _, hP, rfl, by decide, by decide⟩⟩, .refl _ _⟩, ?_⟩
  rintro x w1 ⟨⟨x', hv, hS⟩, k1⟩
  simp only [List.cons.injEq, Value.int.injEq, true_and, and_true] at hv
  subst hv
  rcases hS with ⟨a, fr, to_, at_, p, c, out, rfl, ha, h1, hR, hol, hlb⟩ | hbad
  · refine ⟨0, gimp_intro fun _ => cell_at h1.blk rfl, bsp_intro (fun hlt => ?_) (fun hge => ?_)⟩
    · have hlt : a < s.size := by simp at hlt; omega
      have hm1 : erM w1 n (s.size - (a : Int).toNat + 1) = s.size - a + 1 := by rw [h1.erM]; simp
      -- after an error nothing happens any more
      let T4 : World → Prop := fun w4 => ∃ x_2 : Int, w4.cell? ⟨n, 0 + 2, none⟩ = some (.int .i64 x_2) ∧ ((∃ x : Int, [Value.int .i64 (IntKind.i64.wrap (x_2 + 1))] = [.int .i64 x] ∧ (GoodS w4 (n + 1) n s x ∨ BadS w4 (n + 1) n s)) ∧ Kp (KB (n + 1) n) W w4) ∧ erM w4 n (s.size - (IntKind.i64.wrap (x_2 + 1)).toNat + 1) < erM w1 n (s.size - (a : Int).toNat + 1)
      have tail : ∀ w4, BadS w4 (n + 1) n s → Kp (KB (n + 1) n) W w4 → T4 w4 := fun w4 hb4 k4 => by
        have hb4' := hb4
        obtain ⟨fr, to_, at_, p, c, out, er, he, h4, _⟩ := hb4
        refine ⟨to_, cell_at h4.blk rfl, ⟨⟨_, rfl, .inr hb4'⟩, k4⟩, ?_⟩
        rw [h4.erM, if_neg he, hm1]; omega
      have body : ∀ w3, BadS w3 (n + 1) n s → Kp (KB (n + 1) n) W w3 → CallsS Tryz.prog 66 #[.pointer (some ⟨n, 0, none⟩)] w3 (fun e w4 => e = .returned (.tuple #[]) ∧ KeptL [] w3 w4 ∧ T4 w4) := fun w3 hb3 k3 => by
        obtain ⟨fr, to_, at_, p, c, out, er, he, h3, _⟩ := id hb3
        exact ⟨(pbody_err h3 he).mono fun e w4 ⟨he, k4⟩ => ⟨he, KeptL.of_k0 k4, tail w4 (hb3.k0 k4) (k3.trans (k4.mono fun _ _ h => h.elim))⟩⟩
      have name : ∀ w2, BadS w2 (n + 1) n s → Kp (KB (n + 1) n) W w2 → CallsS Tryz.prog 65 #[.pointer (some ⟨n, 0, none⟩)] w2 (fun e w3 => e = .returned (.tuple #[]) ∧ KeptL [] w2 w3 ∧ CallsS Tryz.prog 66 #[.pointer (some ⟨n, 0, none⟩)] w3 (fun e w4 => e = .returned (.tuple #[]) ∧ KeptL [] w3 w4 ∧ T4 w4)) := fun w2 hb2 k2 => by
        obtain ⟨fr, to_, at_, p, c, out, er, he, h2, _⟩ := id hb2
        exact ⟨(pname_err h2 he).mono fun e w3 ⟨he, k3⟩ => ⟨he, KeptL.of_k0 k3, body w3 (hb2.k0 k3) (k2.trans (k3.mono fun _ _ h => h.elim))⟩⟩
      have hstep := prsR_step (s := s) (out := out) hlt
      rw [hR] at hstep
      refine ⟨(pline_any h1 a (by omega) hs).mono fun e w2 ⟨he, hQ, k2⟩ => ⟨he, ⟨k2.size, fun _ hx => by cases hx⟩, ?_⟩⟩
      have k02 := k1.trans k2
      rcases hQ with ⟨hnl, fr, to_, h2⟩ | ⟨hnl, off, er, he, h2, hcase⟩ | ⟨hnl, hl1, hl2, h2⟩
      · rw [if_pos hnl] at hstep
        exact name w2 ⟨_, _, _, _, _, _, _, by decide, h2, hstep⟩ k02
      · rw [if_neg (by omega)] at hstep
        refine name w2 ⟨_, _, _, _, _, _, _, he, h2, ?_⟩ k02
        rcases hcase with ⟨z1, rfl, rfl⟩ | ⟨z1, z2, rfl, rfl⟩
        · rw [hstep, lineP_pre z1]
        · rw [hstep, lineP_byte z1 z2]
      · rw [if_neg (by omega)] at hstep
        have hanl : a ≤ nlN s a := (skipN_to notNl s (i := a) (by omega)).1
        refine ⟨(pname_any h2 hanl (by omega) hs hl1 hl2 hol).mono fun e w3 ⟨he, hQ, k3⟩ => ⟨he, ⟨k3.size, fun _ hx => by cases hx⟩, ?_⟩⟩
        have k03 := k02.trans k3
        rcases hQ with ⟨er, he, h3, hlp⟩ | ⟨st, p', c', out', h3, hst, ho1, ho2, ho3, hlp⟩
        · rw [hlp] at hstep
          exact body w3 ⟨_, _, _, _, _, _, _, he, h3, hstep⟩ k03
        · rw [hlp] at hstep
          refine ⟨(pbody_any h3 hanl (by omega) hs hst ho1 (by omega) ho2).mono fun e w4 ⟨he, hQ, k4⟩ => ⟨he, ⟨k4.size, fun _ hx => by cases hx⟩, ?_⟩⟩
          have k04 := k03.trans k4
          rcases hQ with ⟨j, er, o4, he, hbp, h4⟩ | ⟨o4, hbp, hlen, hl8, h4⟩
          · rw [hbp] at hstep
            exact tail w4 ⟨_, _, _, _, _, _, _, he, h4, hstep⟩ k04
          · rw [hbp] at hstep
            have ew : IntKind.i64.wrap (((nlN s a : Nat) : Int) + 1) = ((nlN s a + 1 : Nat) : Int) := inc64 (by omega)
            have q1 : nlN s a + 1 ≤ s.size := hnl
            have q2 : o4.length ≤ 64 := by rw [hlen]; exact ho2
            refine ⟨_, cell_at h4.blk rfl, ⟨⟨_, rfl, .inl ⟨nlN s a + 1, _, _, _, _, _, o4, ew, q1, h4, hstep.symm, q2, hl8⟩⟩, k04⟩, ?_⟩
            show erM w4 n (s.size - (IntKind.i64.wrap (((nlN s a : Nat) : Int) + 1)).toNat + 1) < erM w1 n (s.size - (a : Int).toNat + 1)
            rw [ew, h4.erM, hm1, if_pos rfl, Int.toNat_natCast]
            exact Nat.succ_lt_succ (Nat.sub_lt_sub_left hlt (Nat.lt_succ_of_le hanl))
    · have hge : s.size ≤ a := by simp at hge; omega
      refine ⟨0, cell_at h1.blk rfl, bsp_intro (fun h => by cases h) (fun _ => ⟨p, out.length, c, cell_at h1.blk rfl, ?_, fin _ k1⟩)⟩
      rw [← hR, prsR_end hge]
      exact ⟨p, c, rfl, own_base h1.row (by omega)⟩
  · obtain ⟨fr, to_, at_, p, c, out, er, he, h1, hR⟩ := hbad
    have hb : (er == 0) = false := by simpa using he
    have cW : ∀ W' : World, Loc w.heap.size [] w1 W' → PsR W' (n + 1) n s fr to_ at_ p c out er := fun W' hW' => h1.k0 (hW'.kk rfl)
    refine ⟨er, gimp_intro fun _ => cell_at h1.blk rfl, bsp_intro (fun h => by simp [hb] at h) (fun _ => ⟨er, cell_at h1.blk rfl, bsp_intro (fun _ => ⟨at_, fun W' hW' => cell_at (cW W' hW').blk rfl, er, fun W' hW' => cell_at (cW W' hW').blk rfl, fun W' hW' => ?_⟩) (fun h => by simp at h; exact absurd h he)⟩)⟩
    rw [hR]
    exact ⟨⟨none, 0, rfl, rfl, .inl ⟨rfl, rfl⟩⟩, (fin _ k1).trans (hW'.kk rfl)⟩

end Go.Proofs.YtmlmdljnfokebaaGreatDoor

/- The formulas of functions by the symbolic evaluator, and that each gives the call's contract. Written by a program (gen.py). No condition. -/
namespace Go.Proofs.YtmlmdljnfokebaaGreatDoor
set_option maxRecDepth 100000
set_option linter.unusedVariables false

def VC_r9valid (s : ByteArray) (w : World) (R : Ending → World → Prop) : Prop :=
 bsp (decide ((↑s.size : Int) < 1) || decide ((↑s.size : Int) > 40)) (R (Ending.returned (Value.bool false)) w)
 (∃ (I : List Value → World → Prop),
 ∃ (m : List Value → World → Nat),
 I [Value.int IntKind.i64 0] w ∧
 ∀ (x : Int) (w' : World),
 I [Value.int IntKind.i64 x] w' →
 bsp (decide (x < (↑s.size : Int)))
 ((0 ≤ x ∧ x < (↑s.size : Int)) ∧
 gimp (!lowerB (at8 s x.toNat)) (0 ≤ x ∧ x < (↑s.size : Int)) ∧
 gimp (!(lowerB (at8 s x.toNat) || upperB (at8 s x.toNat)) && !x == 0) (0 ≤ x ∧ x < (↑s.size : Int)) ∧
 gimp (!(lowerB (at8 s x.toNat) || upperB (at8 s x.toNat)) && !x == 0 && !digitB (at8 s x.toNat))
 (0 ≤ x ∧ x < (↑s.size : Int)) ∧
 bsp
 (!(lowerB (at8 s x.toNat) || upperB (at8 s x.toNat)) &&
 (x == 0 || !digitB (at8 s x.toNat) && at8 s x.toNat != 45))
 (R (Ending.returned (Value.bool false)) w')
 (I [Value.int IntKind.i64 (IntKind.i64.wrap (x + 1))] w' ∧
 m [Value.int IntKind.i64 (IntKind.i64.wrap (x + 1))] w' < m [Value.int IntKind.i64 x] w'))
 (R (Ending.returned (Value.bool true)) w'))
theorem vc_r9valid (s : ByteArray) (w : World) (R : Ending → World → Prop) (h : VC_r9valid s w R) : Calls Tryz.prog 72 ([Value.string
    s] : List Value).toArray w R := by
  have e : execR2 { P := Tryz.prog, loops := [(4, [(3, Ck.int IntKind.i64)])], pur := purM, tails := [], joins := [], boxes := [] } Tryz.f72.results.toList R (Tryz.f72.body.getD .skip) (initF [Value.string
    s] (Tryz.f72.ntmps - ([Value.string s] : List Value).length)) w = VC_r9valid s w R := by kernel_rfl
  have hb : Tryz.f72.body = some (Tryz.f72.body.getD .skip) := by kernel_rfl
  exact calls_of_exec2' (P := Tryz.prog) (fn := Tryz.f72) (c := Tryz.f72.body.getD .skip) (args := [Value.string
    s]) (w := w) (R := R) purM_ok Tryz.func72 hb e h

def VC_r9check (a : ByteArray) (b : ByteArray) (w : World) (R : Ending → World → Prop) : Prop :=
 ∀ (n : Nat) (W : World),
 Loc w.heap.size [Blk.mk n 89 [Value.string a, Value.string b] 2] w W →
 CallsS Tryz.prog 72 #[Value.string a] W fun (e : Ending) (w' : World) =>
 ∃ (x : Bool),
 e = Ending.returned (Value.bool x) ∧
 KeptL [n] W w' ∧
 bsp (!x) (R (Ending.returned (Value.int IntKind.i64 12)) w')
 (CallsS Tryz.prog 127 #[Value.string b] w' fun (e : Ending) (w'_1 : World) =>
 ∃ (x : Int),
 e = Ending.returned (Value.int IntKind.i64 x) ∧
 KeptL [n] w' w'_1 ∧
 bsp (decide (x ≥ 0)) (R (Ending.returned (Value.int IntKind.i64 6)) w'_1)
 (∀ (W : World),
 Loc w.heap.size [Blk.mk n 89 [Value.string a, Value.string b] 0] w'_1 W →
 ∃ (S : World → Prop),
 S W ∧
 ∃ (x : ByteArray),
 (∀ (w' : World), S w' → w'.cell? (Addr.mk n (0 + 1) none) = some (Value.string x)) ∧
 ∃ (x_1 : ByteArray),
 (∀ (w' : World), S w' → w'.cell? (Addr.mk n (0 + 1) none) = some (Value.string x_1)) ∧
 CallsS Tryz.prog 128 #[Value.string x] W fun (e : Ending) (w' : World) =>
 ∃ (x : ByteArray),
 e = Ending.returned (Value.string x) ∧
 S w' ∧
 KeptL [n] W w' ∧
 bsp (!x.toList == x_1.toList) (R (Ending.returned (Value.int IntKind.i64 3)) w')
 (bsp (decide ((↑b.size : Int) > 8192)) (R (Ending.returned (Value.int IntKind.i64 5)) w')
 (CallsS Tryz.prog 37 #[Value.string b] w' fun (e : Ending) (w'_2 : World) =>
 ∃ (p : Option Addr),
 ∃ (n_1 : Nat),
 ∃ (c : Nat),
 e = Ending.returned (Value.slice p n_1 c) ∧
 KeptL [n] w' w'_2 ∧
 ∃ (I : List Value → World → Prop),
 ∃ (m : List Value → World → Nat),
 I [Value.int IntKind.i64 0] w'_2 ∧
 ∀ (x : Int) (w' : World),
 I [Value.int IntKind.i64 x] w' →
 Loc w.heap.size [Blk.mk n 89 [Value.string a, Value.string b] 0] w' w' →
 bsp (decide (x < (↑n_1 : Int)))
 (nn true p fun (b o : Nat) =>
 (0 ≤ x ∧ x < (↑n_1 : Int)) ∧
 ∃ (x_2 : ByteArray),
 w'.cell? (Addr.mk b (o + x.toNat) none) = some (Value.string x_2) ∧
 bsp (decide ((↑x_2.size : Int) > 900))
 (R (Ending.returned (Value.int IntKind.i64 5)) w')
 (I [Value.int IntKind.i64 (IntKind.i64.wrap (x + 1))] w' ∧
 m [Value.int IntKind.i64 (IntKind.i64.wrap (x + 1))] w' <
 m [Value.int IntKind.i64 x] w'))
 (R (Ending.returned (Value.int IntKind.i64 0)) w')))))
theorem vc_r9check (a : ByteArray) (b : ByteArray) (w : World) (R : Ending → World → Prop) (h : VC_r9check a b w R) : Calls Tryz.prog 90 ([Value.agg
    #[Value.string a, Value.string b]] : List Value).toArray w R := by
  have e : execR2 { P := Tryz.prog, loops := [(11, [(4, Ck.int IntKind.i64)])], pur := purM, tails := [(5, 2)], joins := [], boxes := [] } Tryz.f90.results.toList R (Tryz.f90.body.getD .skip) (initF [Value.agg
    #[Value.string a,
      Value.string
        b]] (Tryz.f90.ntmps - ([Value.agg
    #[Value.string a, Value.string b]] : List Value).length)) w = VC_r9check a b w R := by kernel_rfl
  have hb : Tryz.f90.body = some (Tryz.f90.body.getD .skip) := by kernel_rfl
  exact calls_of_exec2' (P := Tryz.prog) (fn := Tryz.f90) (c := Tryz.f90.body.getD .skip) (args := [Value.agg
    #[Value.string a, Value.string b]]) (w := w) (R := R) purM_ok Tryz.func90 hb e h

def VC_r9fold (a : ByteArray) (b : ByteArray) (w : World) (R : Ending → World → Prop) : Prop :=
 ∀ (n : Nat),
 (9223372036854775807 - (↑(a.size + (ByteArray.mk #[58]).size) : Int)).NonNeg ∧
 ∀ (W : World),
 Loc w.heap.size [Blk.mk n 89 [Value.string a, Value.string b] 2] w W →
 CallsS Tryz.prog 37 #[Value.string b] W fun (e : Ending) (w' : World) =>
 ∃ (p : Option Addr),
 ∃ (n_1 : Nat),
 ∃ (c : Nat),
 e = Ending.returned (Value.slice p n_1 c) ∧
 KeptL [n] W w' ∧
 ∃ (I : List Value → World → Prop),
 ∃ (m : List Value → World → Nat),
 I [Value.int IntKind.i64 0, Value.string (a ++ ByteArray.mk #[58]), Value.string (ByteArray.mk #[])] w' ∧
 ∀ (x : Int) (x_1 x_2 : ByteArray) (w' : World),
 I [Value.int IntKind.i64 x, Value.string x_1, Value.string x_2] w' →
 Loc w.heap.size [Blk.mk n 89 [Value.string a, Value.string b] 0] w' w' →
 bsp (decide (x < (↑n_1 : Int)))
 (nn (!x == 0) p fun (b o : Nat) =>
 gimp (!x == 0) (0 ≤ x ∧ x < (↑n_1 : Int)) ∧
 ∃ (x_3 : ByteArray),
 gimp (!x == 0) (w'.cell? (Addr.mk b (o + x.toNat) none) = some (Value.string x_3)) ∧
 bsp
 (x == 0 ||
 decide (IntKind.i64.wrap (IntKind.i64.wrap ((↑x_1.size : Int) + 1) + (↑x_3.size : Int)) ≤ 78))
 ((9223372036854775807 - (↑(x_1.size + (ByteArray.mk #[32]).size) : Int)).NonNeg ∧
 nn true p fun (b o : Nat) =>
 (0 ≤ x ∧ x < (↑n_1 : Int)) ∧
 ∃ (x_4 : ByteArray),
 w'.cell? (Addr.mk b (o + x.toNat) none) = some (Value.string x_4) ∧
 (9223372036854775807 - (↑((x_1 ++ ByteArray.mk #[32]).size + x_4.size) : Int)).NonNeg ∧
 I
 [Value.int IntKind.i64 (IntKind.i64.wrap (x + 1)),
 Value.string (x_1 ++ ByteArray.mk #[32] ++ x_4), Value.string x_2]
 w' ∧
 m
 [Value.int IntKind.i64 (IntKind.i64.wrap (x + 1)),
 Value.string (x_1 ++ ByteArray.mk #[32] ++ x_4), Value.string x_2]
 w' <
 m [Value.int IntKind.i64 x, Value.string x_1, Value.string x_2] w')
 ((9223372036854775807 - (↑(x_2.size + x_1.size) : Int)).NonNeg ∧
 (9223372036854775807 - (↑((x_2 ++ x_1).size + (ByteArray.mk #[10]).size) : Int)).NonNeg ∧
 nn true p fun (b o : Nat) =>
 (0 ≤ x ∧ x < (↑n_1 : Int)) ∧
 ∃ (x_4 : ByteArray),
 w'.cell? (Addr.mk b (o + x.toNat) none) = some (Value.string x_4) ∧
 (9223372036854775807 - (↑((ByteArray.mk #[32]).size + x_4.size) : Int)).NonNeg ∧
 I
 [Value.int IntKind.i64 (IntKind.i64.wrap (x + 1)),
 Value.string (ByteArray.mk #[32] ++ x_4),
 Value.string (x_2 ++ x_1 ++ ByteArray.mk #[10])]
 w' ∧
 m
 [Value.int IntKind.i64 (IntKind.i64.wrap (x + 1)),
 Value.string (ByteArray.mk #[32] ++ x_4),
 Value.string (x_2 ++ x_1 ++ ByteArray.mk #[10])]
 w' <
 m [Value.int IntKind.i64 x, Value.string x_1, Value.string x_2] w'))
 ((9223372036854775807 - (↑(x_2.size + x_1.size) : Int)).NonNeg ∧
 (9223372036854775807 - (↑((x_2 ++ x_1).size + (ByteArray.mk #[10]).size) : Int)).NonNeg ∧
 R (Ending.returned (Value.string (x_2 ++ x_1 ++ ByteArray.mk #[10]))) w')
theorem vc_r9fold (a : ByteArray) (b : ByteArray) (w : World) (R : Ending → World → Prop) (h : VC_r9fold a b w R) : Calls Tryz.prog 91 ([Value.agg
    #[Value.string a, Value.string b]] : List Value).toArray w R := by
  have e : execR2 { P := Tryz.prog, loops := [(5, [(6, Ck.int IntKind.i64), (4, Ck.str), (3, Ck.str)])], pur := purM, tails := [], joins := [], boxes := [] } Tryz.f91.results.toList R (Tryz.f91.body.getD .skip) (initF [Value.agg
    #[Value.string a,
      Value.string
        b]] (Tryz.f91.ntmps - ([Value.agg
    #[Value.string a, Value.string b]] : List Value).length)) w = VC_r9fold a b w R := by kernel_rfl
  have hb : Tryz.f91.body = some (Tryz.f91.body.getD .skip) := by kernel_rfl
  exact calls_of_exec2' (P := Tryz.prog) (fn := Tryz.f91) (c := Tryz.f91.body.getD .skip) (args := [Value.agg
    #[Value.string a, Value.string b]]) (w := w) (R := R) purM_ok Tryz.func91 hb e h

def VC_r9print (p : Option Addr) (n : Nat) (c : Nat) (w : World) (R : Ending → World → Prop) : Prop :=
 bsp (decide ((↑n : Int) > 64))
 (R (Ending.returned (Value.tuple #[Value.string (ByteArray.mk #[]), Value.int IntKind.i64 9])) w)
 (∃ (I : List Value → World → Prop),
 ∃ (m : List Value → World → Nat),
 I [Value.int IntKind.i64 0, Value.string (ByteArray.mk #[])] w ∧
 ∀ (x : Int) (x_1 : ByteArray) (w' : World),
 I [Value.int IntKind.i64 x, Value.string x_1] w' →
 bsp (decide (x < (↑n : Int)))
 (nn true p fun (b o : Nat) =>
 (0 ≤ x ∧ x < (↑n : Int)) ∧
 ∃ (x_2 : ByteArray),
 ∃ (x_3 : ByteArray),
 AtL w' b (o + x.toNat * 2) [Value.string x_2, Value.string x_3] ∧
 CallsS Tryz.prog 90 #[Value.agg #[Value.string x_2, Value.string x_3]] w' fun (e : Ending) (w'_1 : World) =>
 ∃ (x_4 : Int),
 e = Ending.returned (Value.int IntKind.i64 x_4) ∧
 KeptL [] w' w'_1 ∧
 bsp (x_4 != 0)
 (R (Ending.returned (Value.tuple #[Value.string (ByteArray.mk #[]), Value.int IntKind.i64 x_4])) w'_1)
 (nn true p fun (b o : Nat) =>
 (0 ≤ x ∧ x < (↑n : Int)) ∧
 ∃ (x_5 : ByteArray),
 ∃ (x_6 : ByteArray),
 AtL w'_1 b (o + x.toNat * 2) [Value.string x_5, Value.string x_6] ∧
 CallsS Tryz.prog 91 #[Value.agg #[Value.string x_5, Value.string x_6]] w'_1
 fun (e : Ending) (w'_2 : World) =>
 ∃ (x_7 : ByteArray),
 e = Ending.returned (Value.string x_7) ∧
 KeptL [] w'_1 w'_2 ∧
 (9223372036854775807 - (↑(x_1.size + x_7.size) : Int)).NonNeg ∧
 I [Value.int IntKind.i64 (IntKind.i64.wrap (x + 1)), Value.string (x_1 ++ x_7)] w'_2 ∧
 m [Value.int IntKind.i64 (IntKind.i64.wrap (x + 1)), Value.string (x_1 ++ x_7)] w'_2 <
 m [Value.int IntKind.i64 x, Value.string x_1] w'))
 (bsp (decide ((↑x_1.size : Int) > 65536))
 (R (Ending.returned (Value.tuple #[Value.string (ByteArray.mk #[]), Value.int IntKind.i64 5])) w')
 (R (Ending.returned (Value.tuple #[Value.string x_1, Value.int IntKind.i64 0])) w')))
theorem vc_r9print (p : Option Addr) (n : Nat) (c : Nat) (w : World) (R : Ending → World → Prop) (h : VC_r9print p n c w R) : Calls Tryz.prog 44 ([Value.slice
    p n c] : List Value).toArray w R := by
  have e : execR2 { P := Tryz.prog, loops := [(5, [(5, Ck.int IntKind.i64), (4, Ck.str)])], pur := purM, tails := [], joins := [], boxes := [] } Tryz.f44.results.toList R (Tryz.f44.body.getD .skip) (initF [Value.slice
    p n c] (Tryz.f44.ntmps - ([Value.slice p n c] : List Value).length)) w = VC_r9print p n c w R := by kernel_rfl
  have hb : Tryz.f44.body = some (Tryz.f44.body.getD .skip) := by kernel_rfl
  exact calls_of_exec2' (P := Tryz.prog) (fn := Tryz.f44) (c := Tryz.f44.body.getD .skip) (args := [Value.slice p n
    c]) (w := w) (R := R) purM_ok Tryz.func44 hb e h

def VC_r9add (b : ByteArray) (s : ByteArray) (from_ : Int) (to : Int) (w : World) (R : Ending → World → Prop) : Prop :=
 ∃ (I : List Value → World → Prop),
 ∃ (m : List Value → World → Nat),
 I [Value.int IntKind.i64 from_, Value.string b] w ∧
 ∀ (x : Int) (x_1 : ByteArray) (w' : World),
 I [Value.int IntKind.i64 x, Value.string x_1] w' →
 bsp (decide (x < to))
 ((0 ≤ x ∧ x < (↑s.size : Int)) ∧
 bsp (blankB (at8 s x.toNat))
 (I [Value.int IntKind.i64 (IntKind.i64.wrap (x + 1)), Value.string x_1] w' ∧
 m [Value.int IntKind.i64 (IntKind.i64.wrap (x + 1)), Value.string x_1] w' <
 m [Value.int IntKind.i64 x, Value.string x_1] w')
 (∃ (I_1 : List Value → World → Prop),
 ∃ (m_1 : List Value → World → Nat),
 I_1 [Value.int IntKind.i64 x] w' ∧
 ∀ (x_2 : Int) (w'_1 : World),
 I_1 [Value.int IntKind.i64 x_2] w'_1 →
 gimp (decide (x_2 < to)) (0 ≤ x_2 ∧ x_2 < (↑s.size : Int)) ∧
 bsp (decide (x_2 < to) && !blankB (at8 s x_2.toNat))
 (I_1 [Value.int IntKind.i64 (IntKind.i64.wrap (x_2 + 1))] w'_1 ∧
 m_1 [Value.int IntKind.i64 (IntKind.i64.wrap (x_2 + 1))] w'_1 < m_1 [Value.int IntKind.i64 x_2] w'_1)
 (bsp (decide (IntKind.i64.wrap (x_2 - x) > 900))
 (R (Ending.returned (Value.tuple #[Value.string x_1, Value.int IntKind.i64 x])) w'_1)
 (bsp (!x_1.toList == [])
 ((9223372036854775807 - (↑(x_1.size + (ByteArray.mk #[32]).size) : Int)).NonNeg ∧
 (0 ≤ x ∧ x ≤ x_2 ∧ x_2 ≤ (↑s.size : Int)) ∧
 (9223372036854775807 -
 (↑((x_1 ++ ByteArray.mk #[32]).size + (s.extract x.toNat x_2.toNat).size) : Int)).NonNeg ∧
 I
 [Value.int IntKind.i64 x_2,
 Value.string (x_1 ++ ByteArray.mk #[32] ++ s.extract x.toNat x_2.toNat)]
 w'_1 ∧
 m
 [Value.int IntKind.i64 x_2,
 Value.string (x_1 ++ ByteArray.mk #[32] ++ s.extract x.toNat x_2.toNat)]
 w'_1 <
 m [Value.int IntKind.i64 x, Value.string x_1] w')
 ((0 ≤ x ∧ x ≤ x_2 ∧ x_2 ≤ (↑s.size : Int)) ∧
 (9223372036854775807 - (↑(x_1.size + (s.extract x.toNat x_2.toNat).size) : Int)).NonNeg ∧
 I [Value.int IntKind.i64 x_2, Value.string (x_1 ++ s.extract x.toNat x_2.toNat)] w'_1 ∧
 m [Value.int IntKind.i64 x_2, Value.string (x_1 ++ s.extract x.toNat x_2.toNat)] w'_1 <
 m [Value.int IntKind.i64 x, Value.string x_1] w')))))
 (R (Ending.returned (Value.tuple #[Value.string x_1, Value.int IntKind.i64 (-1)])) w')
theorem vc_r9add (b : ByteArray) (s : ByteArray) (from_ : Int) (to : Int) (w : World) (R : Ending → World → Prop) (h : VC_r9add b s from_ to w R) : Calls Tryz.prog 73 ([Value.string
    b,
  Value.string s, Value.int IntKind.i64 from_, Value.int IntKind.i64 to] : List Value).toArray w R := by
  have e : execR2 { P := Tryz.prog, loops := [(2, [(10, Ck.int IntKind.i64), (0, Ck.str)]), (6, [(11, Ck.int IntKind.i64)])], pur := purM, tails := [], joins := [], boxes := [] } Tryz.f73.results.toList R (Tryz.f73.body.getD .skip) (initF [Value.string
    b,
  Value.string s, Value.int IntKind.i64 from_,
  Value.int IntKind.i64
    to] (Tryz.f73.ntmps - ([Value.string b, Value.string s, Value.int IntKind.i64 from_,
  Value.int IntKind.i64 to] : List Value).length)) w = VC_r9add b s from_ to w R := by kernel_rfl
  have hb : Tryz.f73.body = some (Tryz.f73.body.getD .skip) := by kernel_rfl
  exact calls_of_exec2' (P := Tryz.prog) (fn := Tryz.f73) (c := Tryz.f73.body.getD .skip) (args := [Value.string b,
  Value.string s, Value.int IntKind.i64 from_, Value.int IntKind.i64 to]) (w := w) (R := R) purM_ok Tryz.func73 hb e h

def VC_xjoin (p : Option Addr) (n : Nat) (c : Nat) (w : World) (R : Ending → World → Prop) : Prop :=
 ∃ (I : List Value → World → Prop),
 ∃ (m : List Value → World → Nat),
 I [Value.int IntKind.i64 0, Value.string (ByteArray.mk #[])] w ∧
 ∀ (x : Int) (x_1 : ByteArray) (w' : World),
 I [Value.int IntKind.i64 x, Value.string x_1] w' →
 bsp (decide (x < (↑n : Int)))
 (bsp (decide (x > 0))
 ((9223372036854775807 - (↑(x_1.size + (ByteArray.mk #[32]).size) : Int)).NonNeg ∧
 nn true p fun (b o : Nat) =>
 (0 ≤ x ∧ x < (↑n : Int)) ∧
 ∃ (x_2 : ByteArray),
 w'.cell? (Addr.mk b (o + x.toNat) none) = some (Value.string x_2) ∧
 (9223372036854775807 - (↑((x_1 ++ ByteArray.mk #[32]).size + x_2.size) : Int)).NonNeg ∧
 I [Value.int IntKind.i64 (IntKind.i64.wrap (x + 1)), Value.string (x_1 ++ ByteArray.mk #[32] ++ x_2)] w' ∧
 m [Value.int IntKind.i64 (IntKind.i64.wrap (x + 1)), Value.string (x_1 ++ ByteArray.mk #[32] ++ x_2)] w' <
 m [Value.int IntKind.i64 x, Value.string x_1] w')
 (nn true p fun (b o : Nat) =>
 (0 ≤ x ∧ x < (↑n : Int)) ∧
 ∃ (x_2 : ByteArray),
 w'.cell? (Addr.mk b (o + x.toNat) none) = some (Value.string x_2) ∧
 (9223372036854775807 - (↑(x_1.size + x_2.size) : Int)).NonNeg ∧
 I [Value.int IntKind.i64 (IntKind.i64.wrap (x + 1)), Value.string (x_1 ++ x_2)] w' ∧
 m [Value.int IntKind.i64 (IntKind.i64.wrap (x + 1)), Value.string (x_1 ++ x_2)] w' <
 m [Value.int IntKind.i64 x, Value.string x_1] w'))
 (R (Ending.returned (Value.string x_1)) w')
theorem vc_xjoin (p : Option Addr) (n : Nat) (c : Nat) (w : World) (R : Ending → World → Prop) (h : VC_xjoin p n c w R) : Calls Tryz.prog 47 ([Value.slice
    p n c] : List Value).toArray w R := by
  have e : execR2 { P := Tryz.prog, loops := [(3, [(4, Ck.int IntKind.i64), (3, Ck.str)])], pur := purM, tails := [], joins := [], boxes := [] } Tryz.f47.results.toList R (Tryz.f47.body.getD .skip) (initF [Value.slice
    p n c] (Tryz.f47.ntmps - ([Value.slice p n c] : List Value).length)) w = VC_xjoin p n c w R := by kernel_rfl
  have hb : Tryz.f47.body = some (Tryz.f47.body.getD .skip) := by kernel_rfl
  exact calls_of_exec2' (P := Tryz.prog) (fn := Tryz.f47) (c := Tryz.f47.body.getD .skip) (args := [Value.slice p n
    c]) (w := w) (R := R) purM_ok Tryz.func47 hb e h

def VC_xprint (fu : ByteArray) (fs : ByteArray) (tu : ByteArray) (ts : ByteArray) (n : Int) (d : Int) (sj : ByteArray) (hp : Option Addr) (hn : Nat) (hc : Nat) (bd : ByteArray) (w : World) (R : Ending → World → Prop) : Prop :=
 ∀ (n_1 : Nat) (W : World),
 Loc w.heap.size
 [Blk.mk n_1 32
 [Value.string fu, Value.string fs, Value.string tu, Value.string ts, Value.int IntKind.i64 n,
 Value.int IntKind.i64 d, Value.string sj, Value.slice hp hn hc, Value.string bd]
 2]
 w W →
 CallsS Tryz.prog 43
 #[Value.agg
 #[Value.string fu, Value.string fs, Value.string tu, Value.string ts, Value.int IntKind.i64 n,
 Value.int IntKind.i64 d, Value.string sj, Value.slice hp hn hc, Value.string bd]]
 W fun (e : Ending) (w' : World) =>
 ∃ (x : Int),
 e = Ending.returned (Value.int IntKind.i64 x) ∧
 KeptL [n_1] W w' ∧
 bsp (x != 0) (R (Ending.returned (Value.tuple #[Value.string (ByteArray.mk #[]), Value.int IntKind.i64 x])) w')
 (∀ (W : World),
 Loc w.heap.size
 [Blk.mk n_1 32
 [Value.string fu, Value.string fs, Value.string tu, Value.string ts, Value.int IntKind.i64 n,
 Value.int IntKind.i64 d, Value.string sj, Value.slice hp hn hc, Value.string bd]
 0]
 w' W →
 ∃ (S : World → Prop),
 S W ∧
 ∃ (x : ByteArray),
 ∃ (x_1 : ByteArray),
 (∀ (w' : World), S w' → AtL w' n_1 0 [Value.string x, Value.string x_1]) ∧
 ∃ (x_2 : ByteArray),
 ∃ (x_3 : ByteArray),
 (∀ (w' : World), S w' → AtL w' n_1 (0 + 2) [Value.string x_2, Value.string x_3]) ∧
 ∃ (x_4 : Int),
 (∀ (w' : World), S w' → w'.cell? (Addr.mk n_1 (0 + 4) none) = some (Value.int IntKind.i64 x_4)) ∧
 ∃ (x_5 : Int),
 (∀ (w' : World), S w' → w'.cell? (Addr.mk n_1 (0 + 5) none) = some (Value.int IntKind.i64 x_5)) ∧
 ∃ (p : Option Addr),
 ∃ (n : Nat),
 ∃ (c : Nat),
 (∀ (w' : World), S w' → w'.cell? (Addr.mk n_1 (0 + 7) none) = some (Value.slice p n c)) ∧
 ∃ (x_6 : ByteArray),
 (∀ (w' : World), S w' → w'.cell? (Addr.mk n_1 (0 + 6) none) = some (Value.string x_6)) ∧
 CallsS Tryz.prog 45 #[Value.agg #[Value.string x, Value.string x_1]] W
 fun (e : Ending) (w' : World) =>
 ∃ (x : ByteArray),
 e = Ending.returned (Value.string x) ∧
 S w' ∧
 CallsS Tryz.prog 45 #[Value.agg #[Value.string x_2, Value.string x_3]] w'
 fun (e : Ending) (w' : World) =>
 ∃ (x_7 : ByteArray),
 e = Ending.returned (Value.string x_7) ∧
 S w' ∧
 CallsS Tryz.prog 46 #[Value.int IntKind.i64 x_4] w' fun (e : Ending) (w' : World) =>
 ∃ (x_8 : ByteArray),
 e = Ending.returned (Value.string x_8) ∧
 S w' ∧
 CallsS Tryz.prog 46 #[Value.int IntKind.i64 x_5] w'
 fun (e : Ending) (w' : World) =>
 ∃ (x_9 : ByteArray),
 e = Ending.returned (Value.string x_9) ∧
 S w' ∧
 CallsS Tryz.prog 47 #[Value.slice p n c] w' fun (e : Ending) (w' : World) =>
 ∃ (x_10 : ByteArray),
 e = Ending.returned (Value.string x_10) ∧
 S w' ∧
 ∀ (n : Nat) (w1 : World),
 NewB w'
 (Obj.cells
 #[Value.string (ByteArray.mk #[70, 114, 111, 109]), Value.string x,
 Value.string (ByteArray.mk #[84, 111]), Value.string x_7,
 Value.string (ByteArray.mk #[78, 117, 109, 98, 101, 114]),
 Value.string x_8, Value.string (ByteArray.mk #[68, 97, 116, 101]),
 Value.string x_9, Value.string (ByteArray.mk #[72, 111, 112, 115]),
 Value.string x_10,
 Value.string (ByteArray.mk #[83, 117, 98, 106, 101, 99, 116]),
 Value.string x_6]
 89)
 n w1 →
 CallsS Tryz.prog 44 #[Value.slice (some (Addr.mk n 0 none)) 6 6] w1
 fun (e : Ending) (w' : World) =>
 ∃ (x : ByteArray),
 ∃ (x_11 : Int),
 e =
 Ending.returned
 (Value.tuple #[Value.string x, Value.int IntKind.i64 x_11]) ∧
 KeptL [n_1] W w' ∧
 (9223372036854775807 -
 (↑(x.size + (ByteArray.mk #[10]).size) : Int)).NonNeg ∧
 (9223372036854775807 -
 (↑((x ++ ByteArray.mk #[10]).size + bd.size) : Int)).NonNeg ∧
 R
 (Ending.returned
 (Value.tuple
 #[Value.string (x ++ ByteArray.mk #[10] ++ bd),
 Value.int IntKind.i64 0]))
 w')
theorem vc_xprint (fu : ByteArray) (fs : ByteArray) (tu : ByteArray) (ts : ByteArray) (n : Int) (d : Int) (sj : ByteArray) (hp : Option Addr) (hn : Nat) (hc : Nat) (bd : ByteArray) (w : World) (R : Ending → World → Prop) (h : VC_xprint fu fs tu ts n d sj hp hn hc bd w R) : Calls Tryz.prog 15 ([Value.agg
    #[Value.string fu, Value.string fs, Value.string tu, Value.string ts, Value.int IntKind.i64 n,
      Value.int IntKind.i64 d, Value.string sj, Value.slice hp hn hc, Value.string bd]] : List Value).toArray w R := by
  have e : execR2 { P := Tryz.prog, loops := [], pur := purM, tails := [(4, 2)], joins := [], boxes := [] } Tryz.f15.results.toList R (Tryz.f15.body.getD .skip) (initF [Value.agg
    #[Value.string fu, Value.string fs, Value.string tu, Value.string ts, Value.int IntKind.i64 n,
      Value.int IntKind.i64 d, Value.string sj, Value.slice hp hn hc,
      Value.string
        bd]] (Tryz.f15.ntmps - ([Value.agg
    #[Value.string fu, Value.string fs, Value.string tu, Value.string ts, Value.int IntKind.i64 n,
      Value.int IntKind.i64 d, Value.string sj, Value.slice hp hn hc,
      Value.string bd]] : List Value).length)) w = VC_xprint fu fs tu ts n d sj hp hn hc bd w R := by kernel_rfl
  have hb : Tryz.f15.body = some (Tryz.f15.body.getD .skip) := by kernel_rfl
  exact calls_of_exec2' (P := Tryz.prog) (fn := Tryz.f15) (c := Tryz.f15.body.getD .skip) (args := [Value.agg
    #[Value.string fu, Value.string fs, Value.string tu, Value.string ts, Value.int IntKind.i64 n,
      Value.int IntKind.i64 d, Value.string sj, Value.slice hp hn hc,
      Value.string bd]]) (w := w) (R := R) purM_ok Tryz.func15 hb e h

def VC_r1num (s : ByteArray) (m : Int) (w : World) (R : Ending → World → Prop) : Prop :=
 gimp (!(↑s.size : Int) == 0 && decide ((↑s.size : Int) > 1)) ((0 : Int) ≤ 0 ∧ 0 < (↑s.size : Int)) ∧
 bsp ((↑s.size : Int) == 0 || decide ((↑s.size : Int) > 1) && at8 s 0 == 48)
 (R (Ending.returned (Value.tuple #[Value.int IntKind.i64 0, Value.int IntKind.i64 3])) w)
 (∃ (I : List Value → World → Prop),
 ∃ (m_1 : List Value → World → Nat),
 I [Value.int IntKind.i64 0] w ∧
 ∀ (x : Int) (w' : World),
 I [Value.int IntKind.i64 x] w' →
 bsp (decide (x < (↑s.size : Int)))
 ((0 ≤ x ∧ x < (↑s.size : Int)) ∧
 bsp (!digitB (at8 s x.toNat))
 (R (Ending.returned (Value.tuple #[Value.int IntKind.i64 0, Value.int IntKind.i64 3])) w')
 (I [Value.int IntKind.i64 (IntKind.i64.wrap (x + 1))] w' ∧
 m_1 [Value.int IntKind.i64 (IntKind.i64.wrap (x + 1))] w' < m_1 [Value.int IntKind.i64 x] w'))
 (∃ (I : List Value → World → Prop),
 ∃ (m_2 : List Value → World → Nat),
 I [Value.int IntKind.i64 0, Value.int IntKind.i64 0] w' ∧
 ∀ (x x_1 : Int) (w' : World),
 I [Value.int IntKind.i64 x, Value.int IntKind.i64 x_1] w' →
 bsp (decide (x < (↑s.size : Int)))
 ((0 ≤ x ∧ x < (↑s.size : Int)) ∧
 bsp
 (decide
 (x_1 >
 IntKind.i64.wrap
 ((IntKind.i64.wrap
 (9223372036854775807 - IntKind.i64.wrap (IntKind.i64.wrap (at8 s x.toNat) - 48))).tdiv
 10)))
 (R (Ending.returned (Value.tuple #[Value.int IntKind.i64 0, Value.int IntKind.i64 2])) w')
 (I
 [Value.int IntKind.i64 (IntKind.i64.wrap (x + 1)),
 Value.int IntKind.i64
 (IntKind.i64.wrap
 (IntKind.i64.wrap (10 * x_1) + IntKind.i64.wrap (IntKind.i64.wrap (at8 s x.toNat) - 48)))]
 w' ∧
 m_2
 [Value.int IntKind.i64 (IntKind.i64.wrap (x + 1)),
 Value.int IntKind.i64
 (IntKind.i64.wrap
 (IntKind.i64.wrap (10 * x_1) + IntKind.i64.wrap (IntKind.i64.wrap (at8 s x.toNat) - 48)))]
 w' <
 m_2 [Value.int IntKind.i64 x, Value.int IntKind.i64 x_1] w'))
 (bsp (decide (x_1 > m))
 (R (Ending.returned (Value.tuple #[Value.int IntKind.i64 0, Value.int IntKind.i64 2])) w')
 (R (Ending.returned (Value.tuple #[Value.int IntKind.i64 x_1, Value.int IntKind.i64 0])) w'))))
theorem vc_r1num (s : ByteArray) (m : Int) (w : World) (R : Ending → World → Prop) (h : VC_r1num s m w R) : Calls Tryz.prog 36 ([Value.string
    s,
  Value.int IntKind.i64 m] : List Value).toArray w R := by
  have e : execR2 { P := Tryz.prog, loops := [(4, [(6, Ck.int IntKind.i64)]), (10, [(8, Ck.int IntKind.i64), (7, Ck.int IntKind.i64)])], pur := purM, tails := [], joins := [], boxes := [] } Tryz.f36.results.toList R (Tryz.f36.body.getD .skip) (initF [Value.string
    s,
  Value.int IntKind.i64
    m] (Tryz.f36.ntmps - ([Value.string s,
  Value.int IntKind.i64 m] : List Value).length)) w = VC_r1num s m w R := by kernel_rfl
  have hb : Tryz.f36.body = some (Tryz.f36.body.getD .skip) := by kernel_rfl
  exact calls_of_exec2' (P := Tryz.prog) (fn := Tryz.f36) (c := Tryz.f36.body.getD .skip) (args := [Value.string s,
  Value.int IntKind.i64 m]) (w := w) (R := R) purM_ok Tryz.func36 hb e h

end Go.Proofs.YtmlmdljnfokebaaGreatDoor

/- Chapter 49: the contracts of ascii.Number and of the reference's Number. Texts of at most 2^32 bytes. -/
namespace Go.Proofs.YtmlmdljnfokebaaGreatDoor
open Go.RowKit

theorem dig_i (c : Int) : digitB c = true ↔ 48 ≤ c ∧ c ≤ 57 := by unfold digitB; simp
theorem dig_wr {c : Int} (h : 48 ≤ c ∧ c ≤ 57) : IntKind.i64.wrap (IntKind.u8.wrap (c - 48)) = c - 48 := by
  rw [IntWalk.u8_in _ ⟨by omega, by omega⟩, wr64 (by omega) (by omega)]
theorem anum_any (s : ByteArray) (m : Int) (w : World) (hs : s.size ≤ 4294967296) (hm : m ≤ 4611686018427387904) :
    Calls Tryz.prog 68 #[.string s, .int .i64 m] w fun e w' => e = .returned (.tuple #[.int .i64 (numR s m).1, .int .i64 (numR s m).2]) ∧ K0 w w' := by
  refine vc_anum s m w _ ?_
  unfold VC_anum
  rw [toList_nil]
  refine bsp_intro (fun h0 => ?_) (fun h0 => ?_)
  · have h0 : ¬ s.size = 0 := by simpa using h0
    have h0 : 0 < s.size := by omega
    refine ⟨(skip_any s 0 116 #[] #[] digitB w (by omega) hs (by kernel_rfl) (fun c _ w1 _ => (aIsDigit_any c w1).mono fun e w2 ⟨he, hw⟩ => ⟨he, by rw [hw]; exact .refl _ _⟩)).mono fun e w1 ⟨⟨i, he, _, hi, hall, hst⟩, k1⟩ => ⟨_, he, .of_k0 k1, gimp_intro fun _ => ⟨by omega, by omega⟩, bsp_intro (fun hb => ?_) (fun hb => ?_)⟩⟩
    · have hn : ¬ NumOK s := by
        rintro ⟨_, hd, hz⟩
        simp only [Bool.false_or, Bool.or_eq_true, Bool.and_eq_true, decide_eq_true_eq, beq_iff_eq] at hb
        rcases hb with hb | ⟨h1, h2⟩
        · have hlt : i < s.size := by omega
          have := (dig_i _).2 (hd i hlt)
          rw [hst hlt] at this
          cases this
        · exact hz (by omega) h2
      exact ⟨by unfold numR; rw [if_neg hn], k1⟩
    have hb' : ¬ ((i : Int) < (s.size : Int)) ∧ ¬ ((s.size : Int) > 1 ∧ at8 s 0 = 48) := by
      simp only [Bool.false_or, Bool.or_eq_false_iff, Bool.and_eq_false_iff, decide_eq_false_iff_not, beq_eq_false_iff_ne] at hb
      exact ⟨hb.1, fun h => hb.2.elim (fun h2 => h2 h.1) (fun h2 => h2 h.2)⟩
    have hd : ∀ j, j < s.size → 48 ≤ at8 s j ∧ at8 s j ≤ 57 := fun j hj => (dig_i _).1 (hall j (by omega) (by omega))
    have hok : NumOK s := ⟨h0, hd, fun h1 h2 => hb'.2 ⟨by omega, h2⟩⟩
    refine bsp_intro (fun hneg => ?_) (fun hneg => ?_)
    · exact ⟨by unfold numR; rw [if_pos hok, if_pos (by simpa using hneg)], k1⟩
    have hneg : ¬ m < 0 := by simpa using hneg
    have eR : numR s m = if nvF s s.size ≤ m then (nvF s s.size, 0) else (0, 2) := by unfold numR; rw [if_pos hok, if_neg hneg]
    rw [eR]
    refine ⟨fun vs w' => ∃ k : Nat, vs = [.int .i64 (k : Int), .int .i64 (nvF s k)] ∧ k ≤ s.size ∧ nvF s k ≤ m ∧ K0 w w',
      fun vs _ => (match vs with | .int _ x :: _ => s.size - x.toNat | _ => 0), ⟨0, rfl, by omega, by simp [nvF]; omega, k1⟩, ?_⟩
    rintro x y w2 ⟨k, hv, hk, hle, k2⟩
    simp only [List.cons.injEq, Value.int.injEq, true_and, and_true] at hv
    obtain ⟨rfl, rfl⟩ := hv
    have hnn := nvF_nonneg hd k hk
    refine bsp_intro (fun hlt => ?_) (fun hge => ?_)
    · have hlt : k < s.size := by simp at hlt; omega
      have hdk := hd k hlt
      rw [Int.toNat_natCast, dig_wr hdk, Int.tdiv_eq_ediv_of_nonneg (by omega), Int.tmod_eq_emod_of_nonneg (by omega), wr64 (x := m / 10) (by omega) (by omega)]
      have e1 : nvF s (k + 1) = 10 * nvF s k + (at8 s k - 48) := rfl
      refine ⟨⟨by omega, by omega⟩, bsp_intro (fun hg => ?_) (fun hg => ?_)⟩
      · have hgt : m < nvF s (k + 1) := by
          simp only [Bool.or_eq_true, Bool.and_eq_true, decide_eq_true_eq, beq_iff_eq] at hg
          omega
        have hmo := nvF_mono hd (k + 1) (s.size - (k + 1)) (by omega)
        rw [show k + 1 + (s.size - (k + 1)) = s.size by omega] at hmo
        exact ⟨by rw [if_neg (by omega)], k2⟩
      · have hgt : nvF s (k + 1) ≤ m := by
          simp only [Bool.or_eq_false_iff, Bool.and_eq_false_iff, decide_eq_false_iff_not, beq_eq_false_iff_ne] at hg
          omega
        rw [inc64 (by omega), wr64 (x := 10 * nvF s k) (by omega) (by omega), wr64 (x := 10 * nvF s k + (at8 s k - 48)) (by omega) (by omega)]
        exact ⟨⟨k + 1, rfl, hlt, hgt, k2⟩, by simp only [Int.toNat_natCast]; omega⟩
    · have hk' : k = s.size := by simp at hge; omega
      subst hk'
      exact ⟨by rw [if_pos hle], k2⟩
  · have h0 : s.size = 0 := by simpa using h0
    exact ⟨.refl _ _, trivial, by unfold numR; rw [if_neg (fun h => by have := h.1; omega)], .refl _ _⟩

theorem r1num_any (s : ByteArray) (m : Int) (w : World) (hs : s.size ≤ 4294967296) (hm : m ≤ 4611686018427387904) :
    Calls Tryz.prog 36 #[.string s, .int .i64 m] w fun e w' => e = .returned (.tuple #[.int .i64 (numR s m).1, .int .i64 (numR s m).2]) ∧ K0 w w' := by
  refine vc_r1num s m w _ ⟨gimp_intro fun h => ⟨by omega, by (simp at h; omega)⟩, bsp_intro (fun hb => ?_) (fun hb => ?_)⟩
  · have hn : ¬ NumOK s := by
      rintro ⟨h0, hd, hz⟩
      simp only [Bool.or_eq_true, Bool.and_eq_true, decide_eq_true_eq, beq_iff_eq] at hb
      rcases hb with hb | ⟨h1, h2⟩
      · omega
      · exact hz (by omega) h2
    exact ⟨by unfold numR; rw [if_neg hn], .refl _ _⟩
  have hb' : ¬ s.size = 0 ∧ ¬ ((s.size : Int) > 1 ∧ at8 s 0 = 48) := by
    simp only [Bool.or_eq_false_iff, Bool.and_eq_false_iff, decide_eq_false_iff_not, beq_eq_false_iff_ne] at hb
    exact ⟨by omega, fun h => hb.2.elim (fun h2 => h2 h.1) (fun h2 => h2 h.2)⟩
  refine ⟨fun vs w' => ∃ i : Nat, vs = [.int .i64 (i : Int)] ∧ i ≤ s.size ∧ (∀ j, j < i → digitB (at8 s j) = true) ∧ K0 w w',
    fun vs _ => (match vs with | .int _ x :: _ => s.size - x.toNat | _ => 0), ⟨0, rfl, by omega, (fun j h => by omega), .refl _ _⟩, ?_⟩
  rintro x w1 ⟨i, hv, hi, hall, k1⟩
  simp only [List.cons.injEq, Value.int.injEq, true_and, and_true] at hv
  subst hv
  refine bsp_intro (fun hlt => ?_) (fun hge => ?_)
  · have hlt : i < s.size := by simp at hlt; omega
    rw [Int.toNat_natCast]
    refine ⟨⟨by omega, by omega⟩, bsp_intro (fun hg => ?_) (fun hg => ?_)⟩
    · have hg : digitB (at8 s i) = false := by simpa using hg
      have hn : ¬ NumOK s := by
        rintro ⟨_, hd, _⟩
        have := (dig_i _).2 (hd i hlt)
        rw [hg] at this; cases this
      exact ⟨by unfold numR; rw [if_neg hn], k1⟩
    · have hg : digitB (at8 s i) = true := by simpa using hg
      refine ⟨⟨i + 1, by rw [inc64 (by omega)], hlt, fun j hj => ?_, k1⟩, by rw [inc64 (by omega)]; simp only [Int.toNat_natCast]; omega⟩
      by_cases e : j = i
      · rw [e]; exact hg
      · exact hall j (by omega)
  have hi : i = s.size := by simp at hge; omega
  subst hi
  have hd : ∀ j, j < s.size → 48 ≤ at8 s j ∧ at8 s j ≤ 57 := fun j hj => (dig_i _).1 (hall j hj)
  have hok : NumOK s := ⟨by omega, hd, fun h1 h2 => hb'.2 ⟨by omega, h2⟩⟩
  have hbig : m < nvF s s.size → numR s m = (0, 2) := fun h => by
    unfold numR
    rw [if_pos hok]
    split
    · rfl
    · rw [if_neg (by omega)]
  refine ⟨fun vs w' => ∃ k : Nat, vs = [.int .i64 (k : Int), .int .i64 (nvF s k)] ∧ k ≤ s.size ∧ nvF s k ≤ 9223372036854775807 ∧ K0 w w',
    fun vs _ => (match vs with | .int _ x :: _ => s.size - x.toNat | _ => 0), ⟨0, rfl, by omega, by simp [nvF], k1⟩, ?_⟩
  rintro x y w2 ⟨k, hv, hk, hle, k2⟩
  simp only [List.cons.injEq, Value.int.injEq, true_and, and_true] at hv
  obtain ⟨rfl, rfl⟩ := hv
  have hnn := nvF_nonneg hd k hk
  refine bsp_intro (fun hlt => ?_) (fun hge => ?_)
  · have hlt : k < s.size := by simp at hlt; omega
    have hdk := hd k hlt
    rw [Int.toNat_natCast, wr64 (x := at8 s k) (by omega) (by omega), wr64 (x := at8 s k - 48) (by omega) (by omega), wr64 (x := 9223372036854775807 - (at8 s k - 48)) (by omega) (by omega), Int.tdiv_eq_ediv_of_nonneg (by omega), wr64 (x := (9223372036854775807 - (at8 s k - 48)) / 10) (by omega) (by omega)]
    have e1 : nvF s (k + 1) = 10 * nvF s k + (at8 s k - 48) := rfl
    refine ⟨⟨by omega, by omega⟩, bsp_intro (fun hg => ?_) (fun hg => ?_)⟩
    · have hgt : 9223372036854775807 < nvF s (k + 1) := by simp at hg; omega
      have hmo := nvF_mono hd (k + 1) (s.size - (k + 1)) (by omega)
      rw [show k + 1 + (s.size - (k + 1)) = s.size by omega] at hmo
      exact ⟨by rw [hbig (by omega)], k2⟩
    · have hgt : nvF s (k + 1) ≤ 9223372036854775807 := by simp at hg; omega
      rw [inc64 (by omega), wr64 (x := 10 * nvF s k) (by omega) (by omega), wr64 (x := 10 * nvF s k + (at8 s k - 48)) (by omega) (by omega)]
      exact ⟨⟨k + 1, rfl, hlt, hgt, k2⟩, by simp only [Int.toNat_natCast]; omega⟩
  · have hk' : k = s.size := by simp at hge; omega
    subst hk'
    refine bsp_intro (fun h => ?_) (fun h => ?_)
    · have h : m < nvF s s.size := by simpa using h
      exact ⟨by rw [hbig h], k2⟩
    · have h : nvF s s.size ≤ m := by simp at h; omega
      have e : numR s m = (nvF s s.size, 0) := by unfold numR; rw [if_pos hok, if_neg (by omega), if_pos h]
      exact ⟨by rw [e], k2⟩

end Go.Proofs.YtmlmdljnfokebaaGreatDoor

/- Chapter 49: the contracts of the reference's header: ValidName, Check, Fold, Print, add. No condition but sizes. -/
namespace Go.Proofs.YtmlmdljnfokebaaGreatDoor
open Go.RowKit

theorem r9valid_any (s : ByteArray) (w : World) : Calls Tryz.prog 72 #[.string s] w fun e w' => e = .returned (.bool (nameB s)) ∧ K0 w w' := by
  refine vc_r9valid s w _ (bsp_intro (fun h => ?_) (fun h => ?_))
  · have : nameB s = false := by
      unfold nameB
      simp only [Bool.or_eq_true, decide_eq_true_eq] at h
      rcases h with h | h
      · have : decide (0 < s.size) = false := decide_eq_false (by omega)
        rw [this]; rfl
      · have : decide (s.size ≤ 40) = false := decide_eq_false (by omega)
        rw [this]; simp
    rw [this]; exact ⟨rfl, .refl _ _⟩
  simp only [Bool.or_eq_false_iff, decide_eq_false_iff_not] at h
  have hL : ∀ c, letterB c = (lowerB c || upperB c) := fun c => by unfold letterB; cases lowerB c <;> cases upperB c <;> rfl
  refine ⟨fun vs w' => ∃ i : Nat, vs = [.int .i64 (i : Int)] ∧ i ≤ s.size ∧ (0 < i → letterB (at8 s 0) = true) ∧ (∀ j, j < i → nameC (at8 s j) = true) ∧ K0 w w',
    fun vs _ => (match vs with | .int _ x :: _ => s.size - x.toNat | _ => 0), ⟨0, rfl, by omega, (fun h => by omega), (fun j h => by omega), .refl _ _⟩, ?_⟩
  rintro x w1 ⟨i, hv, hi, h0, hall, k1⟩
  simp only [List.cons.injEq, Value.int.injEq, true_and, and_true] at hv
  subst hv
  refine bsp_intro (fun hlt => ?_) (fun hge => ?_)
  · have hlt : i < s.size := by simp at hlt; omega
    rw [Int.toNat_natCast, ← hL]
    refine ⟨⟨by omega, by omega⟩, gimp_intro fun _ => ⟨by omega, by omega⟩, gimp_intro fun _ => ⟨by omega, by omega⟩, gimp_intro fun _ => ⟨by omega, by omega⟩, bsp_intro (fun hb => ?_) (fun hb => ?_)⟩
    · simp only [Bool.and_eq_true, Bool.or_eq_true, Bool.not_eq_true', beq_iff_eq, bne_iff_ne] at hb
      have : nameB s = false := by
        cases hn : nameB s with
        | false => rfl
        | true =>
          exfalso
          unfold nameB at hn
          simp only [Bool.and_eq_true, decide_eq_true_eq] at hn
          have hc := all_at.1 hn.2 i hlt
          unfold nameC at hc
          rw [hb.1] at hc
          rcases hb.2 with h2 | ⟨h2, h3⟩
          · have : i = 0 := by omega
            subst this
            rw [hn.1.2] at hb
            cases hb.1
          · rw [h2] at hc
            simp at hc
            exact h3 hc
      rw [this]; exact ⟨rfl, k1⟩
    · refine ⟨⟨i + 1, by rw [inc64 (by omega)], hlt, fun _ => ?_, fun j hj => ?_, k1⟩, by rw [inc64 (by omega)]; simp only [Int.toNat_natCast]; omega⟩
      · by_cases e : i = 0
        · subst e
          cases hc : letterB (at8 s 0) with
          | true => rfl
          | false => rw [hc] at hb; simp at hb
        · exact h0 (by omega)
      · by_cases e : j = i
        · subst e
          unfold nameC
          cases hc : letterB (at8 s j) with
          | true => rfl
          | false =>
            rw [hc] at hb
            cases hd : digitB (at8 s j) with
            | true => rfl
            | false =>
              rw [hd] at hb
              simp only [Bool.not_false, Bool.true_and, Bool.or_eq_false_iff, bne_eq_false_iff_eq] at hb
              rw [hb.2]; rfl
        · exact hall j (by omega)
  · have hi : i = s.size := by simp at hge; omega
    subst hi
    have : nameB s = true := by
      unfold nameB
      rw [h0 (by omega), all_at.2 hall, decide_eq_true (by omega), decide_eq_true (by omega)]; rfl
    rw [this]; exact ⟨rfl, k1⟩
theorem r9check_any (a b : ByteArray) (w : World) (hz : b.size ≤ 1073741824) :
    Calls Tryz.prog 90 #[.agg #[.string a, .string b]] w fun e w' => e = .returned (.int .i64 (fchk a b)) ∧ K0 w w' := by
  refine vc_r9check a b w _ (fun n W hW => ?_)
  have kW : K0 w W := hW.kk rfl
  unfold fchk
  refine ⟨(r9valid_any a W).mono fun e w1 ⟨he, k1⟩ => ⟨_, he, .of_k0 k1, bsp_intro (fun h => ?_) (fun h => ?_)⟩⟩
  · rw [if_pos (by simpa using h)]; exact ⟨rfl, kW.trans k1⟩
  rw [if_neg (by simpa using h)]
  refine ⟨(r1printable_any b w1 hz).mono fun e w2 ⟨he, k2⟩ => ⟨_, he, .of_k0 k2, bsp_intro (fun h => ?_) (fun h => fun W2 hW2 => ?_)⟩⟩
  · rw [if_pos (by simpa using h)]; exact ⟨rfl, (kW.trans k1).trans k2⟩
  rw [if_neg (by simpa using h)]
  have k3 : K0 w2 W2 := hW2.kk rfl
  have hb := hW2.cells 0 rfl
  refine ⟨fun wx => K0 W2 wx, .refl _ _, b, fun wx k => cell_at (k.blk hb (fun h => h)) rfl, b, fun wx k => cell_at (k.blk hb (fun h => h)) rfl, ?_⟩
  refine ⟨(r1squeeze_any b W2 hz).mono fun e w4 ⟨he, k4⟩ => ⟨_, he, k4, .of_k0 k4, bsp_intro (fun h => ?_) (fun h => ?_)⟩⟩
  · have h : squeeze b ≠ b := fun e => by rw [e] at h; simp at h
    rw [if_pos h]; exact ⟨rfl, (((kW.trans k1).trans k2).trans k3).trans k4⟩
  have h : squeeze b = b := str_eq (by simpa using h)
  rw [if_neg (fun hn => hn h)]
  have k04 := (((kW.trans k1).trans k2).trans k3).trans k4
  refine bsp_intro (fun h => ?_) (fun h => ?_)
  · rw [if_pos (.inl (by simp at h; omega))]; exact ⟨rfl, k04⟩
  have h8 : ¬ 8192 < b.size := by simp at h; omega
  refine ⟨(r1words_any b w4 hz).mono fun e w5 ⟨⟨p, c, he, ho⟩, k5⟩ => ⟨_, _, _, he, .of_k0 k5, ?_⟩⟩
  have hs := strP_words ho
  have hll := (wordsF_sum b b.size 0 (by omega)).2
  refine ⟨fun vs w' => ∃ i : Nat, vs = [.int .i64 (i : Int)] ∧ i ≤ (words b).length ∧ (∀ (j : Nat) (z : ByteArray), j < i → (words b)[j]? = some z → z.size ≤ 900) ∧ K0 w5 w',
    fun vs _ => (match vs with | .int _ x :: _ => (words b).length - x.toNat | _ => 0), ⟨0, rfl, by omega, (fun j z h => by omega), .refl _ _⟩, ?_⟩
  rintro x w6 ⟨i, hv, hi, hall, k6⟩ _
  simp only [List.cons.injEq, Value.int.injEq, true_and, and_true] at hv
  subst hv
  have hwl : (words b).length ≤ b.size := by unfold words; omega
  refine bsp_intro (fun hlt => ?_) (fun hge => ?_)
  · have hlt : i < (words b).length := by simp at hlt; omega
    obtain ⟨z, bz, oz, hz1, hz2, hz3⟩ := str_get (hs.k0 k6) hlt
    rw [Int.toNat_natCast]
    refine nn_is hz2 ⟨⟨by omega, by omega⟩, z, hz3, bsp_intro (fun h9 => ?_) (fun h9 => ?_)⟩
    · have h9 : 900 < z.size := by simp at h9; omega
      rw [if_pos (.inr (List.any_eq_true.2 ⟨z, List.mem_of_getElem? hz1, decide_eq_true h9⟩))]
      exact ⟨rfl, (k04.trans k5).trans k6⟩
    · have h9 : z.size ≤ 900 := by simp at h9; omega
      refine ⟨⟨i + 1, by rw [inc64 (by omega)], hlt, fun j y hj hy => ?_, k6⟩, by rw [inc64 (by omega)]; simp only [Int.toNat_natCast]; omega⟩
      by_cases e : j = i
      · subst e; rw [hz1] at hy; cases hy; exact h9
      · exact hall j y (by omega) hy
  · have hi : i = (words b).length := by simp at hge; omega
    subst hi
    have hn : ¬ (8192 < b.size ∨ (words b).any (fun x => decide (900 < x.size)) = true) := by
      rintro (h | h)
      · exact h8 h
      · obtain ⟨z, hz, e⟩ := List.any_eq_true.1 h
        obtain ⟨j, hj, e2⟩ := List.getElem_of_mem hz
        have := hall j z hj (by rw [List.getElem?_eq_getElem hj, e2])
        have e := of_decide_eq_true e
        omega
    rw [if_neg hn]
    exact ⟨rfl, (k04.trans k5).trans k6⟩
theorem words_sizes (b : ByteArray) : sumZ (words b) ≤ b.size ∧ (words b).length ≤ b.size := by
  have := wordsF_sum b b.size 0 (by omega)
  unfold words
  omega
set_option maxHeartbeats 1000000 in
theorem r9fold_any (a b : ByteArray) (w : World) (ha : a.size ≤ 1073741824) (hz : b.size ≤ 1073741824) :
    Calls Tryz.prog 91 #[.agg #[.string a, .string b]] w fun e w' => e = .returned (.string (foldT a b)) ∧ K0 w w' := by
  refine vc_r9fold a b w _ (fun n => ⟨nneg (by rw [size_one]; omega), fun W hW => ?_⟩)
  have kW : K0 w W := hW.kk rfl
  refine ⟨(r1words_any b W hz).mono fun e w1 ⟨⟨p, c, he, ho⟩, k1⟩ => ⟨_, _, _, he, .of_k0 k1, ?_⟩⟩
  have hs := strP_words ho
  have hw1 := words_sizes b
  have e0 : (⟨#[]⟩ : ByteArray).size = 0 := rfl
  unfold foldT
  generalize words b = ws at *
  generalize hG : foldW ws 0 (a ++ ⟨#[58]⟩) ⟨#[]⟩ = G
  have hdz : ∀ i, i < ws.length → ∀ z, ws[i]? = some z → sumZ (ws.drop i) = z.size + sumZ (ws.drop (i + 1)) ∧ ws.drop i = z :: ws.drop (i + 1) := fun i hi z hz => by
    have e : ws.drop i = z :: ws.drop (i + 1) := by
      rw [List.drop_eq_getElem_cons hi]
      rw [List.getElem?_eq_getElem hi] at hz
      cases hz; rfl
    exact ⟨by rw [e, sumZ_cons], e⟩
  refine ⟨fun vs w' => ∃ (i : Nat) (line text : ByteArray), vs = [.int .i64 (i : Int), .string line, .string text] ∧ i ≤ ws.length ∧ foldW (ws.drop i) i line text = G ∧ line.size + text.size + sumZ (ws.drop i) + 2 * (ws.length - i) ≤ 5368709120 ∧ K0 w1 w',
    fun vs _ => (match vs with | .int _ x :: _ => ws.length - x.toNat | _ => 0), ⟨0, _, _, rfl, by omega, hG, by rw [ByteArray.size_append, size_one, e0]; simp only [List.drop_zero]; omega, .refl _ _⟩, ?_⟩
  rintro x line text w2 ⟨i, line', text', hv, hi, hF, hsz, k2⟩ _
  simp only [List.cons.injEq, Value.int.injEq, Value.string.injEq, true_and, and_true] at hv
  obtain ⟨rfl, rfl, rfl⟩ := hv
  refine bsp_intro (fun hlt => ?_) (fun hge => ?_)
  · have hlt : i < ws.length := by simp at hlt; omega
    obtain ⟨z, bz, oz, hz1, hz2, hz3⟩ := str_get (hs.k0 k2) hlt
    obtain ⟨hd1, hd2⟩ := hdz i hlt z hz1
    rw [hd2] at hF
    rw [Int.toNat_natCast]
    have hcond : decide (IntKind.i64.wrap (IntKind.i64.wrap ((line.size : Int) + 1) + (z.size : Int)) ≤ 78) = decide (line.size + 1 + z.size ≤ 78) := by
      rw [wr64 (x := (line.size : Int) + 1) (by omega) (by omega), wr64 (by omega) (by omega)]
      exact decide_eq_decide.2 (by omega)
    refine nn_is hz2 ⟨gimp_intro fun _ => ⟨by omega, by omega⟩, z, gimp_intro fun _ => hz3, ?_⟩
    rw [hcond]
    unfold foldW at hF
    refine bsp_intro (fun hb => ?_) (fun hb => ?_)
    · have hn : ¬ (0 < i ∧ 78 < line.size + 1 + z.size) := by
        simp only [Bool.or_eq_true, beq_iff_eq, decide_eq_true_eq] at hb
        omega
      rw [if_neg hn] at hF
      refine ⟨nneg (by rw [size_one]; omega), nn_is hz2 ⟨⟨by omega, by omega⟩, z, hz3, nneg (by rw [ByteArray.size_append, size_one]; omega), ⟨i + 1, _, _, by rw [inc64 (by omega)], hlt, ?_, ?_, k2⟩, by rw [inc64 (by omega)]; simp only [Int.toNat_natCast]; omega⟩⟩
      · rw [ByteArray.append_assoc]; exact hF
      · simp only [ByteArray.size_append, size_one]; omega
    · have hn : 0 < i ∧ 78 < line.size + 1 + z.size := by
        simp only [Bool.or_eq_false_iff, beq_eq_false_iff_ne, decide_eq_false_iff_not] at hb
        omega
      rw [if_pos hn] at hF
      refine ⟨nneg (by omega), nneg (by rw [ByteArray.size_append, size_one]; omega), nn_is hz2 ⟨⟨by omega, by omega⟩, z, hz3, nneg (by rw [size_one]; omega), ⟨i + 1, _, _, by rw [inc64 (by omega)], hlt, ?_, ?_, k2⟩, by rw [inc64 (by omega)]; simp only [Int.toNat_natCast]; omega⟩⟩
      · rw [ByteArray.append_assoc (a := text)]; exact hF
      · simp only [ByteArray.size_append, size_one]; omega
  · have hi : i = ws.length := by simp at hge; omega
    subst hi
    rw [List.drop_length] at hF
    refine ⟨nneg (by omega), nneg (by rw [ByteArray.size_append, size_one]; omega), ?_, (kW.trans k1).trans k2⟩
    rw [← hF]
    show _ = Ending.returned (.string (text ++ (line ++ ⟨#[10]⟩)))
    rw [ByteArray.append_assoc]
theorem r9print_any (l : List (ByteArray × ByteArray)) (p : Option Addr) (c : Nat) (w : World) (hR : RowA fC 2 w p l) (hl : l.length ≤ 64) (hz : ∀ x ∈ l, x.1.size ≤ 65536 ∧ x.2.size ≤ 65536) :
    Calls Tryz.prog 44 #[.slice p l.length c] w fun e w' => e = .returned (.tuple #[.string (fpr l ⟨#[]⟩).1, .int .i64 (fpr l ⟨#[]⟩).2]) ∧ K0 w w' := by
  refine vc_r9print p l.length c w _ (bsp_intro (fun h => by simp at h; omega) (fun _ => ?_))
  have e0 : (⟨#[]⟩ : ByteArray).size = 0 := rfl
  generalize hG : fpr l ⟨#[]⟩ = G
  refine ⟨fun vs w' => ∃ (i : Nat) (t : ByteArray), vs = [.int .i64 (i : Int), .string t] ∧ i ≤ l.length ∧ fpr (l.drop i) t = G ∧ t.size ≤ i * 400000 ∧ K0 w w',
    fun vs _ => (match vs with | .int _ x :: _ => l.length - x.toNat | _ => 0), ⟨0, _, rfl, by omega, hG, by rw [e0]; omega, .refl _ _⟩, ?_⟩
  rintro x t w2 ⟨i, t', hv, hi, hF, hsz, k2⟩
  simp only [List.cons.injEq, Value.int.injEq, Value.string.injEq, true_and, and_true] at hv
  obtain ⟨rfl, rfl⟩ := hv
  refine bsp_intro (fun hlt => ?_) (fun hge => ?_)
  · have hlt : i < l.length := by simp at hlt; omega
    obtain ⟨y, b, o, hy, hp, hat⟩ := (hR.k0 k2).get hlt
    have hyz := hz y (List.mem_of_getElem? hy)
    have hd : l.drop i = y :: l.drop (i + 1) := by
      rw [List.drop_eq_getElem_cons hlt]
      rw [List.getElem?_eq_getElem hlt] at hy
      cases hy; rfl
    rw [hd] at hF
    unfold fpr at hF
    rw [Int.toNat_natCast]
    refine nn_is hp ⟨⟨by omega, by omega⟩, y.1, y.2, hat, ⟨(r9check_any y.1 y.2 w2 (by omega)).mono fun e w3 ⟨he, k3⟩ => ⟨_, he, .of_k0 k3, bsp_intro (fun h => ?_) (fun h => ?_)⟩⟩⟩
    · have h : fchk y.1 y.2 ≠ 0 := by simpa using h
      rw [if_pos h] at hF
      rw [← hF]; exact ⟨rfl, k2.trans k3⟩
    · have h : ¬ fchk y.1 y.2 ≠ 0 := by simpa using h
      rw [if_neg h] at hF
      have hle := foldT_le hyz.1 hyz.2
      refine nn_is hp ⟨⟨by omega, by omega⟩, y.1, y.2, hat.k0 k3, ⟨(r9fold_any y.1 y.2 w3 (by omega) (by omega)).mono fun e w4 ⟨he, k4⟩ => ⟨_, he, .of_k0 k4, nneg (by omega), ⟨i + 1, _, by rw [inc64 (by omega)], hlt, hF, by rw [ByteArray.size_append]; omega, (k2.trans k3).trans k4⟩, by rw [inc64 (by omega)]; simp only [Int.toNat_natCast]; omega⟩⟩⟩
  · have hi : i = l.length := by simp at hge; omega
    subst hi
    rw [List.drop_length] at hF
    rw [← hF]
    unfold fpr
    refine bsp_intro (fun h => ?_) (fun h => ?_)
    · rw [if_pos (by simp at h; omega)]; exact ⟨rfl, k2⟩
    · rw [if_neg (by simp at h; omega)]; exact ⟨rfl, k2⟩
/-- The words of a line's rest are added to a body. -/
theorem r9add_any (b s : ByteArray) (a t st : Nat) (w : World) (hat : a ≤ t) (ht : t ≤ s.size) (hst : st ≤ (s.extract a t).size) (hs : s.size ≤ 65536) (hb : b.size ≤ 1073741824) :
    Calls Tryz.prog 73 #[.string b, .string s, .int .i64 ((a + st : Nat) : Int), .int .i64 (t : Int)] w fun e w' => (match bigP (s.extract a t) st with
      | some j => ∃ b', e = .returned (.tuple #[.string b', .int .i64 ((a + j : Nat) : Int)])
      | none => e = .returned (.tuple #[.string (joinW b (WF (s.extract a t) st)), .int .i64 (-1)])) ∧ K0 w w' := by
  refine vc_r9add b s ((a + st : Nat) : Int) (t : Int) w _ ?_
  have hll : (s.extract a t).size = t - a := by rw [ByteArray.size_extract]; omega
  have hat8 : ∀ j, j < t - a → at8 (s.extract a t) j = at8 s (a + j) := fun j hj => at8_extract s a t j (by omega) ht
  have hext : ∀ i k, i ≤ k → k ≤ t - a → s.extract (a + i) (a + k) = (s.extract a t).extract i k := fun i k h1 h2 => by
    rw [ByteArray.extract_extract]; congr 1; omega
  generalize s.extract a t = l at *
  refine ⟨fun vs w' => ∃ (i : Nat) (x : ByteArray), vs = [.int .i64 ((a + i : Nat) : Int), .string x] ∧ i ≤ l.size ∧ bigP l i = bigP l st ∧ joinW x (WF l i) = joinW b (WF l st) ∧ x.size + 2 * (l.size - i) ≤ 1073941824 ∧ K0 w w',
    fun vs _ => (match vs with | .int _ x :: _ => t - x.toNat | _ => 0), ⟨st, b, rfl, hst, rfl, rfl, by omega, .refl _ _⟩, ?_⟩
  rintro x y w1 ⟨i, y', hv, hi, hB, hJ, hsz, k1⟩
  simp only [List.cons.injEq, Value.int.injEq, Value.string.injEq, true_and, and_true] at hv
  obtain ⟨rfl, rfl⟩ := hv
  refine bsp_intro (fun hlt => ?_) (fun hge => ?_)
  · have hlt : i < l.size := by simp at hlt; omega
    rw [Int.toNat_natCast, ← hat8 i (by omega)]
    refine ⟨⟨by omega, by omega⟩, bsp_intro (fun hbl => ?_) (fun hbl => ?_)⟩
    · refine ⟨⟨i + 1, y, by rw [inc64 (by omega)]; rfl, hlt, by rw [← hB, bigP_blank hlt hbl], by rw [← hJ, WF_blank hlt hbl], by omega, k1⟩, by rw [inc64 (by omega)]; simp only [Int.toNat_natCast]; omega⟩
    · refine ⟨fun vs w' => ∃ k : Nat, vs = [.int .i64 ((a + k : Nat) : Int)] ∧ i ≤ k ∧ k ≤ l.size ∧ (∀ j, i ≤ j → j < k → blankB (at8 l j) = false) ∧ K0 w w',
        fun vs _ => (match vs with | .int _ x :: _ => t - x.toNat | _ => 0), ⟨i, rfl, by omega, hi, (fun j h1 h2 => by omega), k1⟩, ?_⟩
      rintro z w2 ⟨k, hv, hik, hk, hall, k2⟩
      simp only [List.cons.injEq, Value.int.injEq, true_and, and_true] at hv
      subst hv
      rw [Int.toNat_natCast]
      refine ⟨gimp_intro fun h => ⟨by omega, by simp at h; omega⟩, bsp_intro (fun h => ?_) (fun h => ?_)⟩
      · simp only [Bool.and_eq_true, decide_eq_true_eq, Bool.not_eq_true'] at h
        have hk2 : k < l.size := by omega
        rw [← hat8 k (by omega)] at h
        refine ⟨⟨k + 1, by rw [inc64 (by omega)]; rfl, by omega, hk2, fun j h1 h2 => ?_, k2⟩, by rw [inc64 (by omega)]; simp only [Int.toNat_natCast]; omega⟩
        by_cases e : j = k
        · rw [e]; exact h.2
        · exact hall j h1 (by omega)
      · have hst2 : k < l.size → blankB (at8 l k) = true := fun hk2 => by
          rw [← hat8 k (by omega)] at h
          have : decide (((a + k : Nat) : Int) < (t : Int)) = true := decide_eq_true (by omega)
          rw [this] at h
          simpa using h
        have hlt2 : i < k := by
          rcases Nat.lt_or_ge i k with h1 | h1
          · exact h1
          · have : k = i := by omega
            subst this
            rw [hst2 hlt] at hbl; cases hbl
        have e1 := bigP_word hlt2 hk hall hst2
        have e2 := WF_word hlt2 hk hall hst2
        rw [wr64 (by omega) (by omega)]
        refine bsp_intro (fun h9 => ?_) (fun h9 => ?_)
        · have h9 : 900 < k - i := by simp at h9; omega
          rw [if_pos h9] at e1
          rw [← hB, e1]
          exact ⟨⟨y, rfl⟩, k2⟩
        · have h9 : ¬ 900 < k - i := by simp at h9; omega
          rw [if_neg h9] at e1
          have ew : s.extract (a + i) (a + k) = l.extract i k := hext i k hik (by omega)
          have esz : (l.extract i k).size = k - i := by rw [ByteArray.size_extract]; omega
          have hJ' : joinW (addB y (l.extract i k)) (WF l k) = joinW b (WF l st) := by rw [← hJ, e2]; rfl
          rw [ew]
          refine bsp_intro (fun h0 => ?_) (fun h0 => ?_)
          · have h0 : ¬ y.size = 0 := fun e => by
              have := toList_nil y
              rw [decide_eq_true e] at this
              rw [this] at h0; cases h0
            have ea : addB y (l.extract i k) = y ++ ⟨#[32]⟩ ++ l.extract i k := by unfold addB; rw [if_neg h0]
            rw [ea] at hJ'
            refine ⟨nneg (by rw [size_one]; omega), ⟨by omega, by omega, by omega⟩, nneg (by rw [ByteArray.size_append, size_one]; omega), ⟨k, _, rfl, hk, by rw [← hB, e1], hJ', by simp only [ByteArray.size_append, size_one]; omega, k2⟩, by simp only [Int.toNat_natCast]; omega⟩
          · have h0 : y.size = 0 := by
              have := toList_nil y
              rw [this] at h0
              simpa using h0
            have ea : addB y (l.extract i k) = y ++ l.extract i k := by unfold addB; rw [if_pos h0]
            rw [ea] at hJ'
            exact ⟨⟨by omega, by omega, by omega⟩, nneg (by omega), ⟨k, _, rfl, hk, by rw [← hB, e1], hJ', by rw [ByteArray.size_append]; omega, k2⟩, by simp only [Int.toNat_natCast]; omega⟩
  · have hi2 : i = l.size := by simp at hge; omega
    subst hi2
    rw [← hB, bigP_end (Nat.le_refl _)]
    have hJ : joinW b (WF l st) = y := by rw [← hJ, WF_end (Nat.le_refl _)]; rfl
    rw [hJ]
    exact ⟨rfl, k1⟩

end Go.Proofs.YtmlmdljnfokebaaGreatDoor
