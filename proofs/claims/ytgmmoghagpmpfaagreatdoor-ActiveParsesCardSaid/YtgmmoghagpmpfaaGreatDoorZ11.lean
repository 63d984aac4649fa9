/- Chapter 27: the contract of Assign. Names are not too long and lie in a row of texts. -/
import Derived.Test.YtgmmoghagpmpfaaGreatDoorZ10
import Derived.Test.YtgmmoghagpmpfaaGreatDoorZ08
import Derived.Test.YtgmmoghagpmpfaaGreatDoorProg
import Derived.Test.YtgmmoghagpmpfaaGreatDoorZ02
import Derived.Test.YtgmmoghagpmpfaaGreatDoorZ05
import Derived.Test.YtgmmoghagpmpfaaGreatDoorZ04
import Derived.KernelRfl
namespace Go.Proofs.YtgmmoghagpmpfaaGreatDoor
open Go.RowKit Go.Maps Go.Sort

theorem scont27_any (l : List ByteArray) (p : Option Addr) (i c : Nat) (x : ByteArray) (w : World) (hS : StrP w p l) (hi : i ≤ l.length) (hl : l.length ≤ 4611686018427387904) :
    Calls Tryz.prog 60 #[.slice p i c, .string x] w fun e w' => e = .returned (.bool (Lib.containsS (l.take i) x)) ∧ w' = w := by
  rcases Nat.eq_zero_or_pos i with h0 | h0
  · subst h0
    exact (Tryz.slices_Contains_string_empty p c x w).mono fun e w' ⟨he, hw⟩ => ⟨by rw [he, List.take_zero]; rfl, hw⟩
  · obtain ⟨y, b, o, hy, hp, hc⟩ := hS.get (k := 0) (by omega)
    subst hp
    refine (Tryz.slices_Contains_string b o i c l x w hi (by omega) (fun j hj => ?_)).mono fun e w' ⟨he, hw⟩ => ⟨?_, hw⟩
    · obtain ⟨z, b', o', hz, hp', hc'⟩ := hS.get hj
      cases hp'
      rw [hc', List.getD_eq_getElem?_getD, hz]; rfl
    · exact he
/-- A place. -/
def plC (x : ByteArray × Int) : List Value := [.string x.1, .int .i64 x.2]
theorem plC_length (x : ByteArray × Int) : (plC x).length = 2 := rfl
section
variable {w : World} {B b mb : Nat} {m : TM} {A : TA}
set_option maxHeartbeats 2000000 in
theorem acassign_any (h : Tq w B b mb m A) (l : List ByteArray) (p : Option Addr) (c : Nat) (hS : StrP w p l) (hT : TyN 9 w p) (hl : l.length ≤ 1000) (hlc : l.length ≤ c) (hz : ∀ s ∈ l, s.size ≤ 1073741824) :
    Calls Tryz.prog 27 #[.pointer (some ⟨b, 0, none⟩), .slice p l.length c] w fun e w' =>
      (∃ p' c', e = .returned (.tuple #[.slice p' (l.zip (asR A l).2.1).length c', .int .i64 (asR A l).2.2]) ∧ RowA plC 2 w' p' (l.zip (asR A l).2.1) ∧ TyN 64 w' p') ∧ ∃ m', Ts w w' B b mb m (asR A l).1 m' := by
  unfold asR
  refine vc_acassign b p l.length c w _ (bsp_intro (fun h0 => ?_) (fun h0 => ?_))
  · have h0 : l.length = 0 := by simp at h0; simp [h0]
    rw [if_pos h0]
    have : l = [] := List.eq_nil_of_length_eq_zero h0
    subst this
    exact ⟨⟨none, 0, rfl, RowA.nil, TyN.none⟩, m, h.same (.refl _ _)⟩
  have h0 : ¬ l.length = 0 := by intro e; rw [e] at h0; simp at h0
  rw [if_neg h0]
  have hSk : ∀ {w' : World} {M : Nat → Prop}, Kp M w w' → (∀ k c f, w.heap[k]? = some (.cells c 9 f) → ¬ M k) → StrP w' p l := fun hk hm => hS.kp hk (fun b o e => by
    obtain ⟨c, f, hc⟩ := hT b o e
    exact hm b c f hc)
  refine ⟨fun vs w' => ∃ i : Nat, vs = [.int .i64 (i : Int)] ∧ i ≤ l.length ∧ (l.take i).Nodup ∧ w' = w, fun vs _ => (match vs with | .int _ a :: _ => l.length - a.toNat | _ => 0), ⟨0, rfl, by omega, List.nodup_nil, rfl⟩, ?_⟩
  rintro x w1 ⟨i, hv, hi, hnd, rfl⟩
  simp only [List.cons.injEq, Value.int.injEq, true_and, and_true] at hv
  subst hv
  refine bsp_intro (fun hlt => ?_) (fun hge => ?_)
  · have hlt : i < l.length := by simp at hlt; omega
    obtain ⟨s, sb, so, hs, hp, hc⟩ := hS.get hlt
    rw [Int.toNat_natCast]
    refine nn_is hp ⟨⟨by omega, by omega⟩, s, hc, ⟨by omega, by omega⟩, ⟨(scont27_any l p i c s w1 hS (by omega) (by omega)).mono fun e w2 ⟨he, hw⟩ => ⟨_, he, by rw [hw]; exact .refl _ _, ?_⟩⟩⟩
    subst hw
    have htk := take_snoc hs
    refine bsp_intro (fun hb => ?_) (fun hb => ?_)
    · have hb : s ∈ l.take i := (Lib.containsS_iff _ _).1 hb
      have hnn : ¬ l.Nodup := fun hn => by
        have h2 : (l.take (i + 1)).Nodup := hn.sublist (List.take_sublist _ _)
        rw [htk, List.nodup_append] at h2
        exact h2.2.2 s hb s (List.mem_singleton.2 rfl) rfl
      rw [if_pos hnn]
      exact ⟨⟨none, 0, by rw [List.zip_nil_right]; rfl, by rw [List.zip_nil_right]; exact RowA.nil, TyN.none⟩, m, h.same (.refl _ _)⟩
    · have hb : s ∉ l.take i := fun hm => by rw [(Lib.containsS_iff _ _).2 hm] at hb; cases hb
      rw [inc64 (by omega)]
      refine ⟨⟨i + 1, rfl, hlt, ?_, rfl⟩, by simp only [Int.toNat_natCast]; omega⟩
      rw [htk, List.nodup_append]
      exact ⟨hnd, by simp, fun a ha c hc e => by rw [List.mem_singleton.1 hc] at e; subst e; exact hb ha⟩
  have hi2 : i = l.length := by simp at hge; omega
  subst hi2
  rw [List.take_length] at hnd
  rw [if_neg (by simpa using hnd)]
  refine ⟨fun vs w' => ∃ i : Nat, vs = [.int .i64 (i : Int), .int .i64 0] ∧ i ≤ l.length ∧ asE A (l.take i) = 0 ∧ K0 w1 w', fun vs _ => (match vs with | .int _ a :: _ => l.length - a.toNat | _ => 0), ⟨0, rfl, by omega, rfl, .refl _ _⟩, ?_⟩
  rintro x x1 w2 ⟨i, hv, hi, hE, k2⟩
  simp only [List.cons.injEq, Value.int.injEq, true_and, and_true] at hv
  obtain ⟨rfl, rfl⟩ := hv
  refine bsp_intro (fun hlt => ?_) (fun hge => ?_)
  · have hlt : i < l.length := by simp at hlt; omega
    obtain ⟨s, sb, so, hs, hp, hc⟩ := (hS.k0 k2).get hlt
    have hsz := hz s (List.mem_of_getElem? hs)
    have htk := take_snoc hs
    have h2 := h.k0 k2
    have hsn := asE_snoc (A := A) (s := s) hE
    rw [← htk] at hsn
    have herr : ∀ er : Int, er ≠ 0 → asE A (l.take (i + 1)) = er → asE A l = er := fun er h1 h2 => by
      have := asE_app (A := A) (r := l.take (i + 1)) (q := l.drop (i + 1)) (by rw [h2]; exact h1)
      rw [List.take_append_drop, h2] at this
      exact this
    have fin : ∀ (er : Int) {w' : World}, er ≠ 0 → asE A (l.take (i + 1)) = er → K0 w1 w' → (∃ p' c', Ending.returned (Value.tuple #[.slice none 0 0, .int .i64 er]) = .returned (.tuple #[.slice p' (l.zip (if asE A l ≠ 0 then ((A, [], asE A l) : TA × List Int × Int) else (asS A l, asN A l, 0)).2.1).length c', .int .i64 (if asE A l ≠ 0 then ((A, [], asE A l) : TA × List Int × Int) else (asS A l, asN A l, 0)).2.2]) ∧ RowA plC 2 w' p' (l.zip (if asE A l ≠ 0 then ((A, [], asE A l) : TA × List Int × Int) else (asS A l, asN A l, 0)).2.1) ∧ TyN 64 w' p') ∧ ∃ m', Ts w1 w' B b mb m (if asE A l ≠ 0 then ((A, [], asE A l) : TA × List Int × Int) else (asS A l, asN A l, 0)).1 m' := fun er w' h1 h2 hk => by
      have he := herr er h1 h2
      rw [if_pos (by rw [he]; exact h1), he]
      exact ⟨⟨none, 0, by rw [List.zip_nil_right]; rfl, by rw [List.zip_nil_right]; exact RowA.nil, TyN.none⟩, m, h.same hk⟩
    rw [Int.toNat_natCast]
    cases hx : aget m s with
    | none =>
      rw [h.getN hx] at hsn
      refine nn_is hp ⟨⟨by omega, by omega⟩, s, hc, some mb, h2.z.cM, _, _, _, _, _, _, h2.z.look1 hsz, fun n1 => bsp_intro (fun _ W hW => ?_) (fun hb => by rw [hx] at hb; simp at hb)⟩
      exact fin 8 (by decide) hsn (k2.trans (hW.kk rfl))
    | some y =>
      rw [h.getS hx] at hsn
      simp only at hsn
      have hlk := h2.z.look1 hsz
      rw [hx] at hlk
      refine nn_is hp ⟨⟨by omega, by omega⟩, s, hc, some mb, h2.z.cM, _, _, _, _, _, _, hlk, fun n1 => bsp_intro (fun hb => by simp at hb) (fun _ => bsp_intro (fun hb W hW => ?_) (fun hb => bsp_intro (fun hc2 W hW => ?_) (fun hc2 W hW => ?_)))⟩
      · have hb : y.v.c = true := hb
        rw [if_pos hb] at hsn
        exact fin 10 (by decide) hsn (k2.trans (hW.kk rfl))
      · have hb : ¬ y.v.c = true := by simpa using hb
        have hc2 : 2147483646 ≤ y.v.h := by simpa using hc2
        rw [if_neg hb, if_pos hc2] at hsn
        exact fin 9 (by decide) hsn (k2.trans (hW.kk rfl))
      · have hb : ¬ y.v.c = true := by simpa using hb
        have hc2 : ¬ 2147483646 ≤ y.v.h := by simpa using hc2
        rw [if_neg hb, if_neg hc2] at hsn
        rw [inc64 (by omega)]
        exact ⟨⟨i + 1, rfl, hlt, hsn, k2.trans (hW.kk rfl)⟩, by simp only [Int.toNat_natCast]; omega⟩
  have hi2 : i = l.length := by simp at hge; omega
  subst hi2
  rw [List.take_length] at hE
  rw [if_neg (by rw [hE]; simp)]
  refine bsp_intro (fun hb => by simp at hb) (fun _ => ?_)
  refine ⟨fun vs w' => ∃ (i : Nat) (p' : Option Addr) (c' : Nat) (m' : TM), vs = [.int .i64 (i : Int), .slice p' i c'] ∧ i ≤ l.length ∧ w'.ownsRow w2.heap.size 64 2 (.slice p' i c') i (((l.take i).zip (asN A (l.take i))).flatMap plC) ∧ Ts w1 w' B b mb m (asS A (l.take i)) m' ∧ w2.heap.size ≤ w'.heap.size,
    fun vs _ => (match vs with | .int _ a :: _ => l.length - a.toNat | _ => 0), ⟨0, none, 0, m, rfl, by omega, World.ownsRow_nil _ _ _ _, h.same k2, Nat.le_refl _⟩, ?_⟩
  rintro x p1 n1 c1 w3 ⟨i, p', c', m', hv, hi, ho3, hT3, hs3⟩
  simp only [List.cons.injEq, Value.int.injEq, Value.slice.injEq, true_and, and_true] at hv
  obtain ⟨rfl, rfl, rfl, rfl⟩ := hv
  have hlen : ((l.take n1).zip (asN A (l.take n1))).length = n1 := by
    rw [List.length_zip, asN_len (hnd.sublist (List.take_sublist _ _)) (asE_take hE n1), List.length_take]; omega
  refine bsp_intro (fun hlt => ?_) (fun hge => ?_)
  · have hlt : n1 < l.length := by simp at hlt; omega
    obtain ⟨s, sb, so, hs, hp, hc⟩ := (hSk hT3.k (fun k c f hc => h.z.not_ty hc (by decide))).get hlt
    have hsz := hz s (List.mem_of_getElem? hs)
    have htk := take_snoc hs
    have hnd1 : (l.take n1).Nodup := hnd.sublist (List.take_sublist _ _)
    have hnd2 : (l.take (n1 + 1)).Nodup := hnd.sublist (List.take_sublist _ _)
    have hns : s ∉ l.take n1 := fun hm => by
      rw [htk, List.nodup_append] at hnd2
      exact hnd2.2.2 s hm s (List.mem_singleton.2 rfl) rfl
    obtain ⟨v, g1, g2, g3, _, _⟩ := asS_at hnd hE hs
    have hgv : aget (asS A (l.take n1)) s = some v := by rw [asS_get hns]; exact g1
    have hgm := hT3.t.get s
    rw [hgv] at hgm
    cases hy : aget m' s with
    | none => rw [hy] at hgm; cases hgm
    | some y =>
      rw [hy] at hgm
      have hyv : v = y.v := by cases hgm; rfl
      subst hyv
      obtain ⟨_, a1, a2, a3⟩ := h.wf.get g1
      have hlk : LookP Tryz.prog 97 (.map (some mb)) (.string s) false (gxV y) w3 := by
        have := hT3.t.z.look0 hsz
        rw [hy] at this
        exact this
      have e1 : IntKind.i64.wrap (y.v.h + 1) = y.v.h + 1 := wr64 (by omega) (by omega)
      have hyl := hT3.t.lenOf hy
      rw [Int.toNat_natCast]
      refine nn_is hp ⟨⟨by omega, by omega⟩, s, hc, some mb, hT3.t.z.cM, y.v.h, y.v.c, y.p, y.v.l.length, y.c, hlk, ?_⟩
      rw [e1]
      intro n2 W4 hW4
      have k4 : K0 w3 W4 := hW4.kk rfl
      have gn2 : w3.heap.size ≤ n2 := hW4.fresh 0 rfl rfl
      have cn2 := hW4.cells 0 rfl
      have hBW : B ≤ W4.heap.size := by
        have := (hT3.t.k0 k4).z.gb
        have := block_lt (hT3.t.k0 k4).z.st
        omega
      have hoy : y.own W4 B := (hT3.t.z.own s y hy (fun h => h)).kp k4 (fun _ _ h => h)
      refine ⟨(awith_any y.v.l y.p y.c (y.v.h + 1) W4 hoy hBW (by omega) (by omega)).mono fun e w5 ⟨p5, c5, he, ho5, k5, hf5⟩ => ⟨_, _, _, he, .of_kp k5 (fun k hk e => ?_), some mb, fun W6 hW6 => ?_, fun W6 hW6 => ?_⟩⟩
      · simp only [List.mem_cons, List.not_mem_nil, or_false] at hk
        subst hk
        exact own_not hoy cn2 rfl e
      · have st5 : w5.heap[b]? = _ := k5.blk (k4.blk hT3.t.z.st (fun h => h)) (fun e => (hT3.t.z.nm s y b hy e).2.1 rfl)
        exact cell_at (hW6.kp.blk st5 (fun ⟨z, hz, _, e2⟩ => by
          simp only [List.mem_cons, List.not_mem_nil, or_false] at hz
          subst hz
          have := block_lt hT3.t.z.st
          simp only at e2
          omega)) rfl
      · have hn2 : ∀ k, (∃ z ∈ [Blk.mk n2 94 [.int .i64 (y.v.h + 1), .bool y.v.c, .slice p5 (withI y.v.l (y.v.h + 1)).length c5] (wrM 0)], z.m = 1 ∧ z.n = k) → k = n2 := fun k ⟨z, hz, _, e2⟩ => by
          simp only [List.mem_cons, List.not_mem_nil, or_false] at hz
          subst hz
          exact e2.symm
        have k36 : Kp (fun k => y.blk = some k) w3 W6 := ((k4.mono fun _ _ e => e.elim).trans k5).fresh hW6.kp (fun j hj e => by have := hn2 j e; omega)
        have c52 := k5.blk cn2 (fun e => own_not hoy cn2 rfl e)
        have ho6 : Gx.own W6 B ⟨nxG y.v, p5, c5⟩ := owns_kp ho5 hW6.kp (fun k hk e => by
          have := hn2 k e
          subst this
          exact own_not ho5 c52 rfl hk)
        obtain ⟨w7, hu, hT7, k7⟩ := Ts.put (w := W6) hT3.t (x := ⟨nxG y.v, p5, c5⟩) hy k36 hsz ho6 (fun k (hk : (Value.slice p5 (withI y.v.l (y.v.h + 1)).length c5).ownBlock = some k) => by
          rcases hf5 k hk with e | e
          · exact .inl e
          · exact .inr (by have := k4.size; omega)) (hT3.t.wf.nx hgv g3)
        refine ⟨w7, hu, hT3.t.z.keptL k7 (fun k hk => by simp only [List.mem_cons, List.not_mem_nil, or_false] at hk; rw [hk]; exact gn2), fun n3 W8 hW8 => ?_⟩
        have k8 : K0 w7 W8 := hW8.kk rfl
        have ho7 := owns_kp ho3 hT7.k (fun k hk e => by
          obtain ⟨cc, hcc⟩ := own_type ho3 hk
          exact hT3.t.z.not_ty hcc (by decide) e)
        have ho8 := owns_kp ho7 k8 (fun _ _ h => h)
        have hs8 : w2.heap.size ≤ W8.heap.size := Nat.le_trans hs3 (Nat.le_trans hT7.k.size k8.size)
        refine ⟨_, _, ho8, by omega, by omega, hs8, fun p9 c9 w9 ho9 hg9 _ => ⟨.of_kp (kp_grown hg9) (fun k hk e => ?_), ⟨n1 + 1, p9, c9, aset m' s ⟨nxG y.v, p5, c5⟩, by rw [inc64 (by omega)], hlt, ?_, ?_, Nat.le_trans hs8 hg9.size⟩, by rw [inc64 (by omega)]; simp only [Int.toNat_natCast]; omega⟩⟩
        · simp only [List.mem_cons, List.not_mem_nil, or_false] at hk
          subst hk
          exact own_not ho8 (hW8.cells 1 rfl) rfl e
        · have ez : (l.take (n1 + 1)).zip (asN A (l.take (n1 + 1))) = (l.take n1).zip (asN A (l.take n1)) ++ [(s, y.v.h + 1)] := by
            rw [htk, asN_snoc hnd1 (asE_take hE n1) hgv, List.zip_append (by rw [asN_len hnd1 (asE_take hE n1)])]
            rfl
          rw [ez, List.flatMap_append]
          exact ho9
        · rw [htk, asS_snoc hnd1 (asE_take hE n1) hgv]
          refine ((hT3.trans hT7).k0 k8).kpf (kp_grown hg9) (fun k hk => ?_) (fun e => ?_) (fun k hk e => ?_)
          · have := own_ge ho8 hk; have := k2.size; omega
          · exact own_not ho8 ((hT7.t.k0 k8).z.st) rfl e
          · obtain ⟨cc, hcc⟩ := own_type ho8 e
            exact (hT7.t.k0 k8).z.not_ty hcc (by decide) hk
  · have hi2 : n1 = l.length := by simp at hge; omega
    subst hi2
    rw [List.take_length] at ho3 hT3 hlen
    have hr : RowA plC 2 w3 p1 (l.zip (asN A l)) := RowA.own ho3 plC_length (by decide)
    exact ⟨⟨p1, c1, by rw [hlen], hr, TyN.own ho3⟩, m', hT3⟩
end

end Go.Proofs.YtgmmoghagpmpfaaGreatDoor

/- Chapter 27: the contract of parseLine. Texts are not too long; the library's variable MaxLen holds a number. -/
namespace Go.Proofs.YtgmmoghagpmpfaaGreatDoor
open Go.RowKit Go.Maps Go.Sort

theorem yB (c : ByteArray) (d : UInt8) : (c.toList == [(ByteArray.mk #[d]).get! 0]) = decide (c = ⟨#[d]⟩) := by
  have : [(ByteArray.mk #[d]).get! 0] = (⟨#[d]⟩ : ByteArray).toList := by rw [ByteArray.toList_eq]; rfl
  rw [this, str_beq]
theorem emB (c : ByteArray) : (c.toList == []) = decide (c.size = 0) := by
  rw [ByteArray.toList_eq, Bool.eq_iff_iff]
  simp only [beq_iff_eq, decide_eq_true_eq]
  constructor
  · intro h
    have := congrArg List.length h
    simpa using this
  · intro h
    exact List.eq_nil_of_length_eq_zero (by simpa using h)
theorem size0_eq {c : ByteArray} (h : c.size = 0) : c = ⟨#[]⟩ := by
  apply ByteArray.ext
  exact Array.eq_empty_of_size_eq_zero h
theorem lineA_other {s bf : ByteArray} (h : (partsC 32 s).length < 3 ∨ 4 < (partsC 32 s).length) : lineA s bf = .inr 3 := by
  unfold lineA
  split
  · rename_i a b c hp; rw [hp] at h; simp at h
  · rename_i a b c d hp; rw [hp] at h; simp at h
  · rfl
theorem lineA_empty {s bf : ByteArray} (h : ⟨#[]⟩ ∈ partsC 32 s) : lineA s bf = .inr 3 := by
  unfold lineA
  split
  · rename_i a b c hp
    rw [hp] at h
    rw [if_pos]
    simp only [List.mem_cons, List.not_mem_nil, or_false] at h
    rcases h with h | h | h
    · exact .inl (by rw [← h]; rfl)
    · exact .inr (.inl (by rw [← h]; rfl))
    · exact .inr (.inr (by rw [← h]; rfl))
  · rename_i a b c d hp
    rw [hp] at h
    rw [if_pos]
    simp only [List.mem_cons, List.not_mem_nil, or_false] at h
    rcases h with h | h | h | h
    · exact .inl (by rw [← h]; rfl)
    · exact .inr (.inl (by rw [← h]; rfl))
    · exact .inr (.inr (.inl (by rw [← h]; rfl)))
    · exact .inr (.inr (.inr (by rw [← h]; rfl)))
  · rfl
/-- The words of a line, none of them empty. -/
theorem lineA_words {s bf : ByteArray} (h3 : ¬ (partsC 32 s).length < 3) (h4 : ¬ 4 < (partsC 32 s).length) (h : ⟨#[]⟩ ∉ partsC 32 s) : ∃ (a b c : ByteArray) (d : Option ByteArray), partsC 32 s = [a, b, c] ++ d.toList ∧ lineA s bf = lineW a b c d bf := by
  have hz : ∀ x ∈ partsC 32 s, x.size ≠ 0 := fun x hx e => h (by rw [← size0_eq e]; exact hx)
  unfold lineA
  split
  · rename_i a b c hp
    rw [hp] at hz
    refine ⟨a, b, c, none, by rw [hp]; rfl, ?_⟩
    rw [if_neg]
    rintro (e | e | e)
    · exact hz a (by simp) e
    · exact hz b (by simp) e
    · exact hz c (by simp) e
  · rename_i a b c d hp
    rw [hp] at hz
    refine ⟨a, b, c, some d, by rw [hp]; rfl, ?_⟩
    rw [if_neg]
    rintro (e | e | e | e)
    · exact hz a (by simp) e
    · exact hz b (by simp) e
    · exact hz c (by simp) e
    · exact hz d (by simp) e
  · rename_i hn1 hn2
    exfalso
    match hl : partsC 32 s, h3, h4 with
    | [], h3, _ => simp at h3
    | [_], h3, _ => simp at h3
    | [_, _], h3, _ => simp at h3
    | [a, b, c], _, _ => exact hn1 a b c hl
    | [a, b, c, d], _, _ => exact hn2 a b c d hl
    | _ :: _ :: _ :: _ :: _ :: _, _, h4 => simp at h4
/-- What parseLine answers. -/
def PLn (w : World) (s bf : ByteArray) (e : Ending) (w' : World) : Prop := (match lineA s bf with
  | .inl g => ∃ p c, e = .returned (.tuple #[.string g.1, .agg #[.int .i64 g.2.h, .bool g.2.c, .slice p g.2.l.length c], .int .i64 0]) ∧ w'.ownsRow w.heap.size 105 2 (.slice p g.2.l.length c) g.2.l.length (g.2.l.flatMap ivC)
  | .inr er => er ≠ 0 ∧ e = .returned (.tuple #[.string ⟨#[]⟩, .agg #[.int .i64 0, .bool false, .slice none 0 0], .int .i64 er])) ∧ K0 w w'
set_option maxHeartbeats 4000000 in
theorem acpline_any (s bf : ByteArray) (w : World) (hs : s.size ≤ 1048576) (hb : bf.size ≤ 1048576) (hG : GW w) :
    Calls Tryz.prog 43 #[.string s, .string bf] w (PLn w s bf) := by
  refine vc_acpline s bf w _ (fun n W hW => ?_)
  have kW : K0 w W := hW.kk rfl
  have gn : w.heap.size ≤ n := hW.fresh 0 rfl rfl
  have cn := hW.cells 0 rfl
  have fail : ∀ {er : Int} {w' : World}, K0 w w' → lineA s bf = .inr er → er ≠ 0 → PLn w s bf (.returned (.tuple #[.string ⟨#[]⟩, .agg #[.int .i64 0, .bool false, .slice none 0 0], .int .i64 er])) w' := fun k e h => by
    unfold PLn; rw [e]; exact ⟨⟨h, rfl⟩, k⟩
  have kk : ∀ {t : TypeId} {cs : List Value} {mm : Nat} {w1 W1 : World}, K0 w w1 → Loc w.heap.size [Blk.mk n t cs mm] w1 W1 → K0 w W1 := fun k hW1 => hW1.k0 k
  refine ⟨(split27_any 32 s W (by omega) (gk0 hG kW)).mono fun e w1 ⟨⟨p, he, hS⟩, k1⟩ => ⟨_, _, _, he, .of_k0 k1, ?_⟩⟩
  have hps := parts_size 32 s
  have hpl := parts_len 32 s
  have k01 := kW.trans k1
  refine bsp_intro (fun h0 => ?_) (fun h0 => ⟨.refl _ _, fun W2 hW2 => fail (kk k01 hW2) (lineA_other (by simp at h0; omega)) (by decide)⟩)
  have h3 : ¬ (partsC 32 s).length < 3 := by simp at h0; omega
  have h4 : ¬ 4 < (partsC 32 s).length := by simp at h0; omega
  have hco := scont27_any (partsC 32 s) p (partsC 32 s).length (partsC 32 s).length ⟨#[]⟩ w1 hS (Nat.le_refl _) (by omega)
  rw [List.take_length] at hco
  refine ⟨hco.mono fun e w2 ⟨he, hw⟩ => ⟨_, he, by rw [hw]; exact .refl _ _, ?_⟩⟩
  subst hw
  refine bsp_intro (fun hx W2 hW2 => ?_) (fun hx => ?_)
  · have hx : ⟨#[]⟩ ∈ partsC 32 s := (Lib.containsS_iff _ _).1 (by simpa using hx)
    exact fail (kk k01 hW2) (lineA_empty hx) (by decide)
  have hx : ⟨#[]⟩ ∉ partsC 32 s := fun hm => by rw [(Lib.containsS_iff _ _).2 hm] at hx; simp at hx
  obtain ⟨a, b, c, d, hp, hlin⟩ := lineA_words (bf := bf) h3 h4 hx
  rw [hp] at hS hps ⊢
  have ha : a.size ≤ 1048576 := by have := hps a (by simp); omega
  have hbz : b.size ≤ 1048576 := by have := hps b (by simp); omega
  have hlen : ([a, b, c] ++ d.toList).length = 3 + d.toList.length := by simp; omega
  obtain ⟨x0, pb, po, hx0, hpp, hc0⟩ := hS.get (k := 0) (by simp)
  have e0 : x0 = a := by simp at hx0; exact hx0.symm
  subst e0
  have cell : ∀ {wx : World} {j : Nat} {z : ByteArray}, K0 w2 wx → ([x0, b, c] ++ d.toList)[j]? = some z → wx.cell? ⟨pb, po + j, none⟩ = some (.string z) := fun k hj => by
    obtain ⟨z', pb', po', hz', hp', hc'⟩ := hS.get (List.getElem?_eq_some_iff.1 hj).1
    rw [hj] at hz'
    cases hz'
    rw [hpp] at hp'
    cases hp'
    exact k.cell' hc' (fun h => h)
  refine nn_is hpp ⟨⟨by omega, by rw [hlen]; omega⟩, x0, by simpa using hc0, ⟨(gcheck_any x0 w2 (gk0 hG k01)).mono fun e w3 ⟨he, k3⟩ => ⟨_, he, .of_k0 k3, bsp_intro (fun hg W2 hW2 => ?_) (fun hg => ?_)⟩⟩⟩
  · have hg : gnE x0 ≠ 0 := by simpa using hg
    exact fail (kk (k01.trans k3) hW2) (by rw [hlin]; unfold lineW; rw [if_pos hg]) hg
  have hg : gnE x0 = 0 := by simpa using hg
  have k03 := k01.trans k3
  have kw3 : K0 w2 w3 := k3
  have hxs := name_size hg
  have hord : (bf.size ≠ 0 ∧ 0 ≤ gnC bf x0) ∨ ¬ (bf.size ≠ 0 ∧ 0 ≤ gnC bf x0) := Classical.em _
  rw [emB]
  refine bsp_intro (fun ht => ⟨(gncmp1_any bf x0 w3 (by omega) (by omega) (gk0 hG k03)).mono fun e wx ⟨he, kx', _⟩ => ⟨_, he, .of_k0 kx', bsp_intro (fun h30 W2 hW2 => ?_) (fun h30 => ?_)⟩⟩) (fun ht => ⟨.refl _ _, ?_⟩)
  · have ht : bf.size ≠ 0 := by simpa using ht
    have h30 : 0 ≤ gnC bf x0 := by simpa using h30
    exact fail (kk (k03.trans kx') hW2) (by rw [hlin]; unfold lineW; rw [if_neg (by simpa using hg), if_pos ⟨ht, h30⟩]) (by decide)
  rotate_left
  · obtain ⟨wx, hwx⟩ : ∃ wx, wx = w3 := ⟨_, rfl⟩
    have hno : ¬ (bf.size ≠ 0 ∧ 0 ≤ gnC bf x0) := fun ⟨h1, _⟩ => h1 (by simpa using ht)
    have kx : K0 w wx := by rw [hwx]; exact k03
    have kx2 : K0 w2 wx := by rw [hwx]; exact kw3
    rw [← hwx]
    clear hwx
    refine nn_is hpp ⟨⟨by omega, by rw [hlen]; omega⟩, b, cell kx2 rfl, ⟨(anum_any b 2147483646 wx (by omega) (by omega)).mono fun e w5 ⟨he, k5⟩ => ⟨_, _, he, .of_k0 k5, bsp_intro (fun h2 W2 hW2 => ?_) (fun h2 => ?_)⟩⟩⟩
    · have h2 : (numR b 2147483646).2 ≠ 0 := by simpa using h2
      exact fail (kk (kx.trans k5) hW2) (by rw [hlin]; unfold lineW; rw [if_neg (by simpa using hg), if_neg hno, if_pos h2]) (by decide)
    have h2 : (numR b 2147483646).2 = 0 := by simpa using h2
    have k05 := kx.trans k5
    have k25 := kx2.trans k5
    refine nn_is hpp ⟨⟨by omega, by rw [hlen]; omega⟩, c, cell k25 rfl, nn_is hpp ⟨gimp_intro fun _ => ⟨by omega, by rw [hlen]; omega⟩, c, gimp_intro fun _ => cell k25 rfl, bsp_intro (fun h3 W2 hW2 => ?_) (fun h3 => ?_)⟩⟩
    · rw [yB, yB] at h3
      have h3 : c ≠ ⟨#[121]⟩ ∧ c ≠ ⟨#[110]⟩ := by simpa using h3
      exact fail (kk k05 hW2) (by rw [hlin]; unfold lineW; rw [if_neg (by simpa using hg), if_neg hno, if_neg (by simpa using h2), if_pos h3]) (by decide)
    have h3 : ¬ (c ≠ ⟨#[121]⟩ ∧ c ≠ ⟨#[110]⟩) := fun ⟨a1, a2⟩ => by
      rw [yB, yB, decide_eq_false a1, decide_eq_false a2] at h3
      cases h3
    obtain ⟨_, u1, u2, _⟩ := numR_ok h2
    refine nn_is hpp ⟨⟨by omega, by rw [hlen]; omega⟩, c, cell k25 rfl, ?_⟩
    rw [yB]
    intro n2
    cases d with
    | none =>
      refine bsp_intro (fun h => by simp at h) (fun _ W2 hW2 => ?_)
      have hl : lineA s bf = .inl (x0, ⟨(numR b 2147483646).1, decide (c = ⟨#[110]⟩), []⟩) := by
        rw [hlin]; unfold lineW
        rw [if_neg (by simpa using hg), if_neg hno, if_neg (by simpa using h2), if_neg h3]
      unfold PLn
      rw [hl]
      exact ⟨⟨none, 0, rfl, World.ownsRow_nil _ _ _ _⟩, hW2.k0 k05⟩
    | some d =>
      have hdz : d.size ≤ 1048576 := by have := hps d (by simp); omega
      refine bsp_intro (fun _ => nn_is hpp ⟨⟨by omega, by rw [hlen]; simp⟩, d, fun W2 hW2 => cell (k25.trans (hW2.kk rfl)) rfl, fun W2 hW2 => ?_⟩) (fun h => by simp at h)
      have k2W : K0 w W2 := hW2.k0 k05
      have l1 := block_lt (hW2.cells 0 rfl)
      have l2 := block_lt (hW2.cells 1 rfl)
      simp only at l1 l2
      refine ⟨(acpranges_any d (numR b 2147483646).1 W2 hdz ⟨u1, u2⟩ (gk0 hG k2W)).mono fun e w6 ⟨hm, k6⟩ => ?_⟩
      cases hiv : ivL (numR b 2147483646).1 (partsC 44 d) 1 with
      | none =>
        rw [hiv] at hm
        refine ⟨none, 0, 0, false, hm, .of_k0 k6, bsp_intro (fun _ W3 hW3 => fail (hW3.k0 (k2W.trans k6)) ?_ (by decide)) (fun h => by cases h)⟩
        rw [hlin]; unfold lineW
        rw [if_neg (by simpa using hg), if_neg hno, if_neg (by simpa using h2), if_neg h3]
        simp only
        rw [hiv]
      | some l =>
        rw [hiv] at hm
        obtain ⟨q, cc, he, ho⟩ := hm
        refine ⟨q, l.length, cc, true, he, .of_k0 k6, bsp_intro (fun h => by cases h) (fun _ W3 hW3 => ?_)⟩
        have hl : lineA s bf = .inl (x0, ⟨(numR b 2147483646).1, decide (c = ⟨#[110]⟩), l⟩) := by
          rw [hlin]; unfold lineW
          rw [if_neg (by simpa using hg), if_neg hno, if_neg (by simpa using h2), if_neg h3]
          simp only
          rw [hiv]
        have ho3 := owns_kp ho hW3.kp (fun k hk ⟨z, hz, _, e2⟩ => by
          have := own_ge ho hk
          simp only [List.mem_cons, List.not_mem_nil, or_false] at hz
          rcases hz with rfl | rfl
          · simp only at e2; omega
          · simp only at e2; omega)
        unfold PLn
        rw [hl]
        exact ⟨⟨q, cc, rfl, own_base ho3 k2W.size⟩, hW3.k0 (k2W.trans k6)⟩
  · have hno : ¬ (bf.size ≠ 0 ∧ 0 ≤ gnC bf x0) := fun ⟨_, h1⟩ => by simp at h30; omega
    have kx : K0 w wx := k03.trans kx'
    have kx2 : K0 w2 wx := kw3.trans kx'
    refine nn_is hpp ⟨⟨by omega, by rw [hlen]; omega⟩, b, cell kx2 rfl, ⟨(anum_any b 2147483646 wx (by omega) (by omega)).mono fun e w5 ⟨he, k5⟩ => ⟨_, _, he, .of_k0 k5, bsp_intro (fun h2 W2 hW2 => ?_) (fun h2 => ?_)⟩⟩⟩
    · have h2 : (numR b 2147483646).2 ≠ 0 := by simpa using h2
      exact fail (kk (kx.trans k5) hW2) (by rw [hlin]; unfold lineW; rw [if_neg (by simpa using hg), if_neg hno, if_pos h2]) (by decide)
    have h2 : (numR b 2147483646).2 = 0 := by simpa using h2
    have k05 := kx.trans k5
    have k25 := kx2.trans k5
    refine nn_is hpp ⟨⟨by omega, by rw [hlen]; omega⟩, c, cell k25 rfl, nn_is hpp ⟨gimp_intro fun _ => ⟨by omega, by rw [hlen]; omega⟩, c, gimp_intro fun _ => cell k25 rfl, bsp_intro (fun h3 W2 hW2 => ?_) (fun h3 => ?_)⟩⟩
    · rw [yB, yB] at h3
      have h3 : c ≠ ⟨#[121]⟩ ∧ c ≠ ⟨#[110]⟩ := by simpa using h3
      exact fail (kk k05 hW2) (by rw [hlin]; unfold lineW; rw [if_neg (by simpa using hg), if_neg hno, if_neg (by simpa using h2), if_pos h3]) (by decide)
    have h3 : ¬ (c ≠ ⟨#[121]⟩ ∧ c ≠ ⟨#[110]⟩) := fun ⟨a1, a2⟩ => by
      rw [yB, yB, decide_eq_false a1, decide_eq_false a2] at h3
      cases h3
    obtain ⟨_, u1, u2, _⟩ := numR_ok h2
    refine nn_is hpp ⟨⟨by omega, by rw [hlen]; omega⟩, c, cell k25 rfl, ?_⟩
    rw [yB]
    intro n2
    cases d with
    | none =>
      refine bsp_intro (fun h => by simp at h) (fun _ W2 hW2 => ?_)
      have hl : lineA s bf = .inl (x0, ⟨(numR b 2147483646).1, decide (c = ⟨#[110]⟩), []⟩) := by
        rw [hlin]; unfold lineW
        rw [if_neg (by simpa using hg), if_neg hno, if_neg (by simpa using h2), if_neg h3]
      unfold PLn
      rw [hl]
      exact ⟨⟨none, 0, rfl, World.ownsRow_nil _ _ _ _⟩, hW2.k0 k05⟩
    | some d =>
      have hdz : d.size ≤ 1048576 := by have := hps d (by simp); omega
      refine bsp_intro (fun _ => nn_is hpp ⟨⟨by omega, by rw [hlen]; simp⟩, d, fun W2 hW2 => cell (k25.trans (hW2.kk rfl)) rfl, fun W2 hW2 => ?_⟩) (fun h => by simp at h)
      have k2W : K0 w W2 := hW2.k0 k05
      have l1 := block_lt (hW2.cells 0 rfl)
      have l2 := block_lt (hW2.cells 1 rfl)
      simp only at l1 l2
      refine ⟨(acpranges_any d (numR b 2147483646).1 W2 hdz ⟨u1, u2⟩ (gk0 hG k2W)).mono fun e w6 ⟨hm, k6⟩ => ?_⟩
      cases hiv : ivL (numR b 2147483646).1 (partsC 44 d) 1 with
      | none =>
        rw [hiv] at hm
        refine ⟨none, 0, 0, false, hm, .of_k0 k6, bsp_intro (fun _ W3 hW3 => fail (hW3.k0 (k2W.trans k6)) ?_ (by decide)) (fun h => by cases h)⟩
        rw [hlin]; unfold lineW
        rw [if_neg (by simpa using hg), if_neg hno, if_neg (by simpa using h2), if_neg h3]
        simp only
        rw [hiv]
      | some l =>
        rw [hiv] at hm
        obtain ⟨q, cc, he, ho⟩ := hm
        refine ⟨q, l.length, cc, true, he, .of_k0 k6, bsp_intro (fun h => by cases h) (fun _ W3 hW3 => ?_)⟩
        have hl : lineA s bf = .inl (x0, ⟨(numR b 2147483646).1, decide (c = ⟨#[110]⟩), l⟩) := by
          rw [hlin]; unfold lineW
          rw [if_neg (by simpa using hg), if_neg hno, if_neg (by simpa using h2), if_neg h3]
          simp only
          rw [hiv]
        have ho3 := owns_kp ho hW3.kp (fun k hk ⟨z, hz, _, e2⟩ => by
          have := own_ge ho hk
          simp only [List.mem_cons, List.not_mem_nil, or_false] at hz
          rcases hz with rfl | rfl
          · simp only at e2; omega
          · simp only at e2; omega)
        unfold PLn
        rw [hl]
        exact ⟨⟨q, cc, rfl, own_base ho3 k2W.size⟩, hW3.k0 (k2W.trans k6)⟩

end Go.Proofs.YtgmmoghagpmpfaaGreatDoor

/- Chapter 27: the contract of Parse. A text is not too long; the library's variable MaxLen holds a number. -/
namespace Go.Proofs.YtgmmoghagpmpfaaGreatDoor
open Go.RowKit Go.Maps Go.Sort

theorem insA_end {A : TA} {k : ByteArray} {v : Gv} (h : ∀ p ∈ A, gnC p.1 k < 0) : insA gnC A k v = A ++ [(k, v)] := by
  have e1 : ∀ (l : TA), (∀ p ∈ l, gnC p.1 k < 0) → l.takeWhile (fun p => decide (gnC p.1 k < 0)) = l ∧ l.dropWhile (fun p => decide (gnC p.1 k < 0)) = [] := by
    intro l
    induction l with
    | nil => exact fun _ => ⟨rfl, rfl⟩
    | cons p r ih =>
      intro hl
      obtain ⟨i1, i2⟩ := ih (fun q hq => hl q (List.mem_cons_of_mem _ hq))
      have hp := hl p List.mem_cons_self
      rw [List.takeWhile_cons, List.dropWhile_cons, if_pos (by simpa using hp), if_pos (by simpa using hp), i1, i2]
      exact ⟨rfl, rfl⟩
  unfold insA
  rw [(e1 A h).1, (e1 A h).2]
theorem ksort_last {A : TA} (h : KSort gnC A) {k : ByteArray} (hb : ∀ p, A.getLast? = some p → gnC p.1 k < 0) : ∀ p ∈ A, gnC p.1 k < 0 := by
  have := ksort_snoc (g := (k, (⟨0, false, []⟩ : Gv))) h hb
  intro p hp
  exact (List.pairwise_append.1 this).2.2 p hp _ (List.mem_singleton.2 rfl)
theorem joinT_len {c : UInt8} : ∀ (l : List ByteArray), (∀ x ∈ l, 0 < x.size) → l.length ≤ (joinT c l).size
  | [], _ => Nat.le_refl _
  | [x], h => h x List.mem_cons_self
  | x :: y :: r, h => by
    have h1 := joinT_len (c := c) (y :: r) (fun z hz => h z (List.mem_cons_of_mem _ hz))
    have h2 := h x List.mem_cons_self
    rw [joinT_cons, ByteArray.size_append, ByteArray.size_append, size_one, List.length_cons]
    omega
theorem joinT_mem {c : UInt8} : ∀ (l : List ByteArray) (x : ByteArray), x ∈ l → x.size ≤ (joinT c l).size
  | [], _, h => by cases h
  | [y], x, h => by rw [List.mem_singleton.1 h]; exact Nat.le_refl _
  | y :: z :: r, x, h => by
    rw [joinT_cons, ByteArray.size_append, ByteArray.size_append]
    rcases List.mem_cons.1 h with rfl | h
    · omega
    · have := joinT_mem (c := c) (z :: r) x h
      omega
/-- A set has no more ranges than the table's text has bytes. -/
theorem prT_ranges {A : TA} (hA : ∀ p ∈ A, LnOK p.1 p.2) : ∀ p ∈ A, p.2.l.length ≤ (prT A).size := by
  induction A with
  | nil => intro p hp; cases hp
  | cons q A ih =>
    intro p hp
    rw [prT_cons, ByteArray.size_append]
    rcases List.mem_cons.1 hp with rfl | hp
    · have hok := hA p List.mem_cons_self
      have h1 : p.2.l.length ≤ (lnT p).size := by
        unfold lnT
        rw [ByteArray.size_append]
        cases hv : p.2.l with
        | nil => exact Nat.zero_le _
        | cons x t =>
          have hm : rngT p.2.l ∈ wdT p.1 p.2 := by unfold wdT; rw [hv]; simp
          have h2 := joinT_mem (c := 32) _ _ hm
          have h3 := joinT_len (c := 44) (p.2.l.map ivT) (fun y hy => by
            obtain ⟨z, hz, rfl⟩ := List.mem_map.1 hy
            exact ivT_pos (by have := (hok.iv.mem z hz).1; omega))
          rw [List.length_map] at h3
          have h4 : p.2.l.length ≤ (rngT p.2.l).size := h3
          rw [← hv]
          omega
      omega
    · have := ih (fun r hr => hA r (List.mem_cons_of_mem _ hr)) p hp
      omega
set_option maxHeartbeats 2000000 in
theorem acparse_any (s : ByteArray) (w : World) (hs : s.size ≤ 1048576) (hw : 0 < w.heap.size) (hG : GW w) :
    Calls Tryz.prog 13 #[.string s] w fun e w' => (match parseT s with
      | .inl A => ∃ b mb m, e = .returned (.tuple #[.pointer (some ⟨b, 0, none⟩), .int .i64 0, .int .i64 0]) ∧ Tq w' w.heap.size b mb m A
      | .inr (n, er) => e = .returned (.tuple #[.pointer none, .int .i64 (n : Nat), .int .i64 er]) ∧ er ≠ 0) ∧ K0 w w' := by
  refine vc_acparse s w _ (bsp_intro (fun h => by simp at h; omega) (fun _ => ⟨(acnew_any w hw).mono fun e w1 ⟨⟨b, mb, he, hT⟩, k1⟩ => ⟨_, he, .of_k0 k1, ?_⟩⟩))
  refine ⟨fun vs w' => ∃ (A : TA) (m : TM) (f : Nat) (bf rest : ByteArray), vs = [.pointer (some ⟨b, 0, none⟩), .string bf, .string rest, .int .i64 (A.length : Nat)] ∧ Tq w' w.heap.size b mb m A ∧ parseT s = parseA f rest (A.length + 1) bf A ∧ rest.size < f ∧ rest.size ≤ s.size ∧ bf.size ≤ 1048576 ∧ (∀ p, A.getLast? = some p → bf = p.1) ∧ K0 w w',
    fun vs _ => (match vs with | [_, _, .string r, _] => r.size | _ => 0), ⟨[], [], s.size + 1, ⟨#[]⟩, s, rfl, hT, rfl, by omega, by omega, by show 0 ≤ 1048576; omega, (fun p hp => by cases hp), k1⟩, ?_⟩
  rintro x0 x1 x2 x3 w2 ⟨A, m, f, bf, rest, hv, hT2, hE, hf, hrs, hbz, hbf, k2⟩
  simp only [List.cons.injEq, Value.pointer.injEq, Value.string.injEq, Value.int.injEq, true_and, and_true] at hv
  obtain ⟨rfl, rfl, rfl, rfl⟩ := hv
  obtain ⟨f, rfl⟩ : ∃ g, f = g + 1 := ⟨f - 1, by omega⟩
  have hE2 : parseT s = if x2.size = 0 then .inl A else if ¬ findC 10 x2 < x2.size then .inr (A.length + 1, 4) else
    match lineA (x2.extract 0 (findC 10 x2)) x1 with
    | .inr e => .inr (A.length + 1, e)
    | .inl g => if 4096 < A.length + 1 then .inr (A.length + 1, 9) else parseA f (x2.extract (findC 10 x2 + 1) x2.size) (A.length + 1 + 1) g.1 (A ++ [g]) := hE
  have hlen := hT2.len
  have hinc : IntKind.i64.wrap (((A.length : Nat) : Int) + 1) = ((A.length + 1 : Nat) : Int) := inc64 (by omega)
  have hG2 := gk0 hG k2
  rw [emB]
  refine bsp_intro (fun h0 => ?_) (fun h0 => ?_)
  · have h0 : x2.size ≠ 0 := by simpa using h0
    rw [if_neg h0] at hE2
    refine ⟨(cut27_any 10 x2 w2 (by omega) hG2).mono fun e w3 ⟨he, k3⟩ => ⟨_, _, _, he, .of_k0 k3, ?_⟩⟩
    have k03 := k2.trans k3
    by_cases hk : findC 10 x2 < x2.size
    · rw [if_neg (by simpa using hk)] at hE2
      rw [if_pos hk, if_pos hk, decide_eq_true hk]
      have z1 : (x2.extract 0 (findC 10 x2)).size ≤ 1048576 := by rw [ByteArray.size_extract]; omega
      have z2 : (x2.extract (findC 10 x2 + 1) x2.size).size < x2.size := by rw [ByteArray.size_extract]; omega
      refine bsp_intro (fun h => by cases h) (fun _ => ⟨(acpline_any (x2.extract 0 (findC 10 x2)) x1 w3 z1 hbz (gk0 hG k03)).mono fun e w4 hP => ?_⟩)
      unfold PLn at hP
      obtain ⟨hP, k4⟩ := hP
      have k04 := k03.trans k4
      cases hl : lineA (x2.extract 0 (findC 10 x2)) x1 with
      | inr er =>
        rw [hl] at hP hE2
        obtain ⟨he0, he⟩ := hP
        refine ⟨_, _, _, _, _, _, _, he, .of_k0 k4, fun n1 => bsp_intro (fun _ W hW => ?_) (fun h => by simp at h; exact absurd h he0)⟩
        rw [hE2, hinc]
        exact ⟨⟨rfl, he0⟩, hW.k0 k04⟩
      | inl g =>
        rw [hl] at hP hE2
        obtain ⟨p, c, he, ho⟩ := hP
        obtain ⟨g1, g2, g3⟩ := lineA_ok hl
        have hgz := name_size g1.nm
        refine ⟨_, _, _, _, _, _, _, he, .of_k0 k4, fun n1 => bsp_intro (fun h => by simp at h) (fun _ => ?_)⟩
        rw [hinc]
        refine bsp_intro (fun h9 W hW => ?_) (fun h9 => nn_is rfl ⟨some mb, fun W hW => (hT2.k0 ((k3.trans k4).trans (hW.kk rfl))).z.cM, fun W hW => ?_⟩)
        · have h9 : 4096 < A.length + 1 := by simp at h9; omega
          simp only at hE2
          rw [if_pos h9] at hE2
          rw [hE2]
          exact ⟨⟨rfl, by decide⟩, hW.k0 k04⟩
        · have h9 : ¬ 4096 < A.length + 1 := by simp at h9; omega
          simp only at hE2
          rw [if_neg h9] at hE2
          have k2W : K0 w2 W := (k3.trans k4).trans (hW.kk rfl)
          have hall : ∀ q ∈ A, gnC q.1 g.1 < 0 := ksort_last hT2.wf.sort (fun q hq => by
            have e := hbf q hq
            rw [← e]
            refine g2 (fun e2 => ?_)
            have := (name_no (hT2.wf.nm q (List.mem_of_getLast? hq))).1
            rw [← e] at this
            omega)
          have hins := insA_end (v := g.2) hall
          have hnone : aget A g.1 = none := by
            rw [aget_none]
            intro q hq e
            have := hall q hq
            rw [e, gnC_ord.self] at this
            omega
          have hmn : aget m g.1 = none := by
            have := hT2.get g.1
            rw [hnone] at this
            cases hx : aget m g.1 with
            | none => rfl
            | some y => rw [hx] at this; cases this
          have hm : ∀ {q}, q ∈ A ++ [g] → q ∈ A ∨ q = g := fun hp => by
            rcases List.mem_append.1 hp with h | h
            · exact .inl h
            · exact .inr (List.mem_singleton.1 h)
          have hw2 : WF (A ++ [g]) := ⟨ksort_snoc hT2.wf.sort (fun q hq => hall q (List.mem_of_getLast? hq)), fun p hp => by rcases hm hp with h | rfl; exact hT2.wf.nm p h; exact g1.nm, fun p hp => by rcases hm hp with h | rfl; exact hT2.wf.hi p h; exact ⟨g1.h0, g1.hi⟩, fun p hp => by rcases hm hp with h | rfl; exact hT2.wf.iv p h; exact g1.iv⟩
          have hoW : Gx.own W w.heap.size ⟨g.2, p, c⟩ := owns_kp (own_base ho k03.size) (hW.kk rfl : K0 w4 W) (fun _ _ h => h)
          obtain ⟨w5, hu, hT5, k5⟩ := Ts.ins (w := W) hT2 (x := ⟨g.2, p, c⟩) hmn k2W (by omega) hoW (fun k (hk : (Value.slice p g.2.l.length c).ownBlock = some k) => by have := own_ge ho hk; have := k3.size; omega) (by show WF (insA gnC A g.1 g.2); rw [hins]; exact hw2) (by omega)
          have hA5 : insA gnC A g.1 (⟨g.2, p, c⟩ : Gx).v = A ++ [g] := hins
          rw [hA5] at hT5
          have hl1 : (A ++ [g]).length = A.length + 1 := by simp
          refine ⟨w5, hu, hT2.z.keptL k5 (fun k hk => by simp only [List.mem_cons, List.not_mem_nil, or_false] at hk; rw [hk]; have : w4.heap.size ≤ n1 := hW.fresh 0 rfl rfl; have := k3.size; have := k4.size; omega), ⟨A ++ [g], _, f, g.1, x2.extract (findC 10 x2 + 1) x2.size, by rw [hl1], hT5.t, by rw [hE2, hl1], by omega, by omega, by omega, fun q hq => by simp at hq; rw [← hq], hT5.base hT2.z k2 (Nat.le_refl _)⟩, z2⟩
    · rw [if_pos hk] at hE2
      rw [decide_eq_false hk]
      refine bsp_intro (fun _ => ?_) (fun h => by cases h)
      rw [hE2, hinc]
      exact ⟨⟨rfl, by decide⟩, k03⟩
  · have h0 : x2.size = 0 := by simpa using h0
    rw [if_pos h0] at hE2
    rw [hE2]
    exact ⟨⟨b, mb, m, rfl, hT2⟩, k2⟩

end Go.Proofs.YtgmmoghagpmpfaaGreatDoor

/- The formulas of functions by the symbolic evaluator, and that each gives the call's contract. Written by a program (gen.py). No condition. -/
namespace Go.Proofs.YtgmmoghagpmpfaaGreatDoor
set_option maxRecDepth 100000
set_option linter.unusedVariables false

def VC_aclknown (w : World) (R : Ending → World → Prop) : Prop :=
 CallsS Tryz.prog 19 #[] w fun (e : Ending) (w' : World) =>
 ∃ (x : Option Addr),
 e = Ending.returned (Value.pointer x) ∧
 KeptL [] w w' ∧
 bsp x.isNone (R (Ending.returned (Value.bool false)) w')
 (CallsS Tryz.prog 31 #[Value.pointer x, Value.string (ByteArray.mk #[97])] w' fun (e : Ending) (w'_1 : World) =>
 ∃ (x_1 : Int),
 e = Ending.returned (Value.int IntKind.i64 x_1) ∧
 KeptL [] w' w'_1 ∧
 ∀ (n : Nat) (W : World),
 Loc w.heap.size [Blk.mk n 9 [Value.string (ByteArray.mk #[97])] 2] w'_1 W →
 CallsS Tryz.prog 27 #[Value.pointer x, Value.slice (some (Addr.mk n 0 none)) 1 1] W
 fun (e : Ending) (w' : World) =>
 ∃ (p : Option Addr),
 ∃ (n : Nat),
 ∃ (c : Nat),
 ∃ (x_2 : Int),
 e = Ending.returned (Value.tuple #[Value.slice p n c, Value.int IntKind.i64 x_2]) ∧
 KeptL [] W w' ∧
 ∀ (n_1 : Nat) (W : World),
 Loc w.heap.size [Blk.mk n_1 9 [Value.string (ByteArray.mk #[97])] 2] w' W →
 CallsS Tryz.prog 27 #[Value.pointer x, Value.slice (some (Addr.mk n_1 0 none)) 1 1] W
 fun (e : Ending) (w' : World) =>
 ∃ (p_1 : Option Addr),
 ∃ (n_2 : Nat),
 ∃ (c : Nat),
 ∃ (x_3 : Int),
 e = Ending.returned (Value.tuple #[Value.slice p_1 n_2 c, Value.int IntKind.i64 x_3]) ∧
 KeptL [] W w' ∧
 ∀ (n_3 : Nat) (W : World),
 Loc w.heap.size [Blk.mk n_3 9 [Value.string (ByteArray.mk #[97])] 2] w' W →
 CallsS Tryz.prog 27 #[Value.pointer x, Value.slice (some (Addr.mk n_3 0 none)) 1 1] W
 fun (e : Ending) (w' : World) =>
 ∃ (p_2 : Option Addr),
 ∃ (n_4 : Nat),
 ∃ (c : Nat),
 ∃ (x_4 : Int),
 e =
 Ending.returned (Value.tuple #[Value.slice p_2 n_4 c, Value.int IntKind.i64 x_4]) ∧
 KeptL [] W w' ∧
 CallsS Tryz.prog 33
 #[Value.pointer x,
 Value.agg #[Value.string (ByteArray.mk #[97]), Value.int IntKind.i64 2]]
 w' fun (e : Ending) (w'_2 : World) =>
 ∃ (x_5 : Int),
 e = Ending.returned (Value.int IntKind.i64 x_5) ∧
 KeptL [] w' w'_2 ∧
 CallsS Tryz.prog 16 #[Value.pointer x, Value.string (ByteArray.mk #[97])] w'_2
 fun (e : Ending) (w' : World) =>
 ∃ (x_6 : ByteArray),
 ∃ (x_7 : Int),
 ∃ (x_8 : Int),
 ∃ (x_9 : Int),
 ∃ (x_10 : Bool),
 ∃ (x_11 : Int),
 e =
 Ending.returned
 (Value.tuple
 #[Value.agg
 #[Value.string x_6, Value.int IntKind.i64 x_7,
 Value.int IntKind.i64 x_8, Value.int IntKind.i64 x_9,
 Value.bool x_10],
 Value.int IntKind.i64 x_11]) ∧
 KeptL [] w'_2 w' ∧
 ∀ (n_5 : Nat) (W : World),
 Loc w.heap.size
 [Blk.mk n_5 31
 [Value.string x_6, Value.int IntKind.i64 x_7,
 Value.int IntKind.i64 x_8, Value.int IntKind.i64 x_9,
 Value.bool x_10]
 (wrM 2)]
 w' W →
 CallsS Tryz.prog 13
 #[Value.string
 (ByteArray.mk #[97, 32, 51, 32, 121, 32, 50, 44, 49, 10])]
 W fun (e : Ending) (w' : World) =>
 ∃ (x_12 : Option Addr),
 ∃ (x_13 : Int),
 ∃ (x_14 : Int),
 e =
 Ending.returned
 (Value.tuple
 #[Value.pointer x_12, Value.int IntKind.i64 x_13,
 Value.int IntKind.i64 x_14]) ∧
 KeptL [n_5] W w' ∧
 CallsS Tryz.prog 13
 #[Value.string
 (ByteArray.mk #[97, 32, 51, 32, 121, 32, 49, 44, 51, 10])]
 w' fun (e : Ending) (w'_3 : World) =>
 ∃ (x_15 : Option Addr),
 ∃ (x_16 : Int),
 ∃ (x_17 : Int),
 e =
 Ending.returned
 (Value.tuple
 #[Value.pointer x_15, Value.int IntKind.i64 x_16,
 Value.int IntKind.i64 x_17]) ∧
 KeptL [n_5] w' w'_3 ∧
 nn (x_1 == 0 && x_2 == 0 && (↑n : Int) == 1) p
 fun (b o : Nat) =>
 gimp (x_1 == 0 && x_2 == 0 && (↑n : Int) == 1)
 ((0 : Int) ≤ 0 ∧ 0 < (↑n : Int)) ∧
 ∃ (x_18 : ByteArray),
 ∃ (x_19 : Int),
 gimp (x_1 == 0 && x_2 == 0 && (↑n : Int) == 1)
 (AtL w'_3 b o
 [Value.string x_18, Value.int IntKind.i64 x_19]) ∧
 ∃ (r : Bool),
 gimp (x_1 == 0 && x_2 == 0 && (↑n : Int) == 1)
 (EqP Tryz.prog 64
 (Value.agg
 #[Value.string x_18,
 Value.int IntKind.i64 x_19])
 (Value.agg
 #[Value.string (ByteArray.mk #[97]),
 Value.int IntKind.i64 1])
 r) ∧
 ∃ (r_1 : Bool),
 gimp
 (x_1 == 0 && x_2 == 0 && (↑n : Int) == 1 &&
 r &&
 x_5 == 0 &&
 x_11 == 0)
 (EqP Tryz.prog 31
 (Value.agg
 #[Value.string x_6,
 Value.int IntKind.i64 x_7,
 Value.int IntKind.i64 x_8,
 Value.int IntKind.i64 x_9, Value.bool x_10])
 (Value.agg
 #[Value.string (ByteArray.mk #[97]),
 Value.int IntKind.i64 1,
 Value.int IntKind.i64 3,
 Value.int IntKind.i64 2, Value.bool false])
 r_1) ∧
 bsp
 (x_1 == 0 && x_2 == 0 && (↑n : Int) == 1 &&
 r &&
 x_5 == 0 &&
 x_11 == 0 &&
 r_1)
 (CallsS Tryz.prog 17 #[Value.pointer x] w'_3
 fun (e : Ending) (w' : World) =>
 ∃ (x_20 : ByteArray),
 e = Ending.returned (Value.string x_20) ∧
 KeptL [n_5] w'_3 w' ∧
 bsp
 (true &&
 x_20.toList ==
 [(ByteArray.mk
 #[97, 32, 51, 32, 121, 32, 49,
 44, 51, 10]).get!
 0,
 (ByteArray.mk
 #[97, 32, 51, 32, 121, 32, 49,
 44, 51, 10]).get!
 1,
 (ByteArray.mk
 #[97, 32, 51, 32, 121, 32, 49,
 44, 51, 10]).get!
 2,
 (ByteArray.mk
 #[97, 32, 51, 32, 121, 32, 49,
 44, 51, 10]).get!
 3,
 (ByteArray.mk
 #[97, 32, 51, 32, 121, 32, 49,
 44, 51, 10]).get!
 4,
 (ByteArray.mk
 #[97, 32, 51, 32, 121, 32, 49,
 44, 51, 10]).get!
 5,
 (ByteArray.mk
 #[97, 32, 51, 32, 121, 32, 49,
 44, 51, 10]).get!
 6,
 (ByteArray.mk
 #[97, 32, 51, 32, 121, 32, 49,
 44, 51, 10]).get!
 7,
 (ByteArray.mk
 #[97, 32, 51, 32, 121, 32, 49,
 44, 51, 10]).get!
 8,
 (ByteArray.mk
 #[97, 32, 51, 32, 121, 32, 49,
 44, 51, 10]).get!
 9] &&
 x_13 == 1 &&
 x_14 == 3 &&
 x_17 == 0 &&
 !x_15.isNone)
 (CallsS Tryz.prog 24
 #[Value.pointer x_15, Value.pointer x] w'
 fun (e : Ending) (w'_4 : World) =>
 ∃ (x : Bool),
 e = Ending.returned (Value.bool x) ∧
 KeptL [n_5] w' w'_4 ∧
 R
 (Ending.returned
 (Value.bool (true && x)))
 w'_4)
 (KeptL [n_5] w' w' ∧
 R (Ending.returned (Value.bool false))
 w'))
 (KeptL [n_5] w'_3 w'_3 ∧
 KeptL [n_5] w'_3 w'_3 ∧
 R (Ending.returned (Value.bool false)) w'_3))
theorem vc_aclknown (w : World) (R : Ending → World → Prop) (h : VC_aclknown w R) : Calls Tryz.prog 15 ([] : List Value).toArray w R := by
  have e : execR2 { P := Tryz.prog, loops := [], pur := pur1, tails := [], joins := [], boxes := [] } Tryz.f15.results.toList R (Tryz.f15.body.getD .skip) (initF [] (Tryz.f15.ntmps - ([] : List Value).length)) w = VC_aclknown w R := by kernel_rfl
  have hb : Tryz.f15.body = some (Tryz.f15.body.getD .skip) := by kernel_rfl
  exact calls_of_exec2' (P := Tryz.prog) (fn := Tryz.f15) (c := Tryz.f15.body.getD .skip) (args := []) (w := w) (R := R) pur1_ok Tryz.func15 hb e h

end Go.Proofs.YtgmmoghagpmpfaaGreatDoor

/- Chapter 27: the examples of the chapter hold: known returns true. The library's variable MaxLen holds a number, its table of powers of ten reads as laid. -/
namespace Go.Proofs.YtgmmoghagpmpfaaGreatDoor
open Go.RowKit Go.Maps Go.Sort

theorem gw_lt {w : World} (h : GW w) : 0 < w.heap.size := by
  obtain ⟨m, hm⟩ := h
  rcases Nat.lt_or_ge 0 w.heap.size with h' | h'
  · exact h'
  · unfold World.cell? at hm
    simp only [Array.getElem?_eq_none h'] at hm
    cases hm
def kA : ByteArray := ⟨#[97]⟩
def kT1 : ByteArray := ⟨#[97, 32, 51, 32, 121, 32, 50, 44, 49, 10]⟩
def kT2 : ByteArray := ⟨#[97, 32, 51, 32, 121, 32, 49, 44, 51, 10]⟩
def tA (h : Int) (l : List Iv) : TA := [(kA, ⟨h, false, l⟩)]
section
set_option maxRecDepth 100000
theorem kn0 : opA [] kA = (tA 0 [], 0) := by kernel_rfl
theorem kn1 : asR (tA 0 []) [kA] = (tA 1 [⟨1, 1⟩], [1], 0) := by kernel_rfl
theorem kn2 : asR (tA 1 [⟨1, 1⟩]) [kA] = (tA 2 [⟨1, 2⟩], [2], 0) := by kernel_rfl
theorem kn3 : asR (tA 2 [⟨1, 2⟩]) [kA] = (tA 3 [⟨1, 3⟩], [3], 0) := by kernel_rfl
theorem kn4 : rmA (tA 3 [⟨1, 3⟩]) kA 2 = (tA 3 [⟨1, 1⟩, ⟨3, 3⟩], 0) := by kernel_rfl
theorem kn5 : aget (tA 3 [⟨1, 1⟩, ⟨3, 3⟩]) kA = some ⟨3, false, [⟨1, 1⟩, ⟨3, 3⟩]⟩ := by kernel_rfl
theorem kn6 : parseT kT1 = .inr (1, 3) := by kernel_rfl
theorem kn7 : parseT kT2 = .inl (tA 3 [⟨1, 1⟩, ⟨3, 3⟩]) := by kernel_rfl
end
theorem kn8 : prT (tA 3 [⟨1, 1⟩, ⟨3, 3⟩]) = kT2 := (parse_ok kn7).2.2
theorem row_lit {w : World} {n : Nat} {t : TypeId} {f : Nat × Nat} (h : w.heap[n]? = some (.cells #[.string kA] t f)) : StrP w (some ⟨n, 0, none⟩) [kA] := strP_lit (zs := [kA]) h
theorem ty_lit {w : World} {n : Nat} {c : Array Value} {t : TypeId} {f : Nat × Nat} (h : w.heap[n]? = some (.cells c t f)) : TyN t w (some ⟨n, 0, none⟩) := fun g o e => by
  cases e
  exact ⟨_, _, h⟩
set_option maxHeartbeats 4000000 in
set_option maxRecDepth 100000 in
theorem acknown_any (w : World) (hG : GW w) (hT : GT w) : Calls Tryz.prog 15 #[] w fun e w' => e = .returned (.bool true) ∧ K0 w w' := by
  have hw := gw_lt hG
  refine vc_aclknown w _ ?_
  refine ⟨(acnew_any w hw).mono fun e w1 ⟨⟨b, mb, he, hT1⟩, k1⟩ => ⟨_, he, .of_k0 k1, bsp_intro (fun h => by cases h) (fun _ => ?_)⟩⟩
  refine ⟨(acopen_any hT1 kA (by decide) (gk0 hG k1)).mono fun e w2 ⟨he, m2, hT2⟩ => ?_⟩
  rw [kn0] at he hT2
  have k2 : K0 w w2 := hT2.base hT1.z k1 (Nat.le_refl _)
  refine ⟨_, he, ⟨hT2.k.size, fun _ hm => by cases hm⟩, fun n1 W2 hW2 => ?_⟩
  have kW2 : K0 w W2 := k2.trans (hW2.kk rfl)
  have hTW2 := hT2.t.k0 (hW2.kk rfl)
  refine ⟨(acassign_any hTW2 [kA] (some ⟨n1, 0, none⟩) 1 (row_lit (hW2.cells 0 rfl)) (ty_lit (hW2.cells 0 rfl)) (by decide) (by decide) (by decide)).mono fun e w3 ⟨⟨p3, c3, he, hr3, ht3⟩, m3, hT3⟩ => ?_⟩
  rw [kn1] at he hr3 hT3
  have k3 : K0 w w3 := hT3.base hTW2.z kW2 (Nat.le_refl _)
  refine ⟨_, _, _, _, he, ⟨hT3.k.size, fun _ hm => by cases hm⟩, fun n2 W3 hW3 => ?_⟩
  have kW3 : K0 w W3 := k3.trans (hW3.kk rfl)
  have hTW3 := hT3.t.k0 (hW3.kk rfl)
  refine ⟨(acassign_any hTW3 [kA] (some ⟨n2, 0, none⟩) 1 (row_lit (hW3.cells 0 rfl)) (ty_lit (hW3.cells 0 rfl)) (by decide) (by decide) (by decide)).mono fun e w4 ⟨⟨p4, c4, he, _, _⟩, m4, hT4⟩ => ?_⟩
  rw [kn2] at he hT4
  have k4 : K0 w w4 := hT4.base hTW3.z kW3 (Nat.le_refl _)
  refine ⟨_, _, _, _, he, ⟨hT4.k.size, fun _ hm => by cases hm⟩, fun n3 W4 hW4 => ?_⟩
  have kW4 : K0 w W4 := k4.trans (hW4.kk rfl)
  have hTW4 := hT4.t.k0 (hW4.kk rfl)
  refine ⟨(acassign_any hTW4 [kA] (some ⟨n3, 0, none⟩) 1 (row_lit (hW4.cells 0 rfl)) (ty_lit (hW4.cells 0 rfl)) (by decide) (by decide) (by decide)).mono fun e w5 ⟨⟨p5, c5, he, _, _⟩, m5, hT5⟩ => ?_⟩
  rw [kn3] at he hT5
  have k5 : K0 w w5 := hT5.base hTW4.z kW4 (Nat.le_refl _)
  refine ⟨_, _, _, _, he, ⟨hT5.k.size, fun _ hm => by cases hm⟩, ?_⟩
  refine ⟨(acremove_any hT5.t kA (by decide) 2 (by decide)).mono fun e w6 ⟨he, m6, hT6⟩ => ?_⟩
  rw [kn4] at he hT6
  have k6 : K0 w w6 := hT6.base hT5.t.z k5 (Nat.le_refl _)
  refine ⟨_, he, ⟨hT6.k.size, fun _ hm => by cases hm⟩, ?_⟩
  refine ⟨(acget_any hT6.t kA (by decide)).mono fun e w7 ⟨he, k67⟩ => ?_⟩
  rw [kn5] at he
  have k7 := k6.trans k67
  refine ⟨_, _, _, _, _, _, he, .of_k0 k67, fun n5 W7 hW7 => ?_⟩
  have kW7 : K0 w W7 := k7.trans (hW7.kk rfl)
  refine ⟨(acparse_any kT1 W7 (by decide) (gw_lt (gk0 hG kW7)) (gk0 hG kW7)).mono fun e w8 hP8 => ?_⟩
  rw [kn6] at hP8
  obtain ⟨⟨he, _⟩, k8⟩ := hP8
  refine ⟨_, _, _, he, .of_k0 k8, ?_⟩
  have k08 := kW7.trans k8
  refine ⟨(acparse_any kT2 w8 (by decide) (gw_lt (gk0 hG k08)) (gk0 hG k08)).mono fun e w9 hP9 => ?_⟩
  rw [kn7] at hP9
  obtain ⟨⟨b9, mb9, m9, he, hT9⟩, k9⟩ := hP9
  refine ⟨_, _, _, he, .of_k0 k9, ?_⟩
  have k09 := k08.trans k9
  have nt : ∀ {w : World} {B b mb : Nat} {m : TM} {A : TA} (h : Tq w B b mb m A) (k : Nat) (c : Array Value) (f : Nat × Nat), w.heap[k]? = some (.cells c 64 f) → ¬ Tb mb m k := fun h k c f hc => h.z.not_ty hc (by decide)
  have r1 := hr3.k0 (hW3.kk rfl)
  have t1 := ht3.k0 (hW3.kk rfl)
  have r2 := (r1.kpT t1 hT4.k (nt hTW3)).k0 (hW4.kk rfl)
  have t2 := (t1.kp hT4.k (nt hTW3)).k0 (hW4.kk rfl)
  have r3 := r2.kpT t2 hT5.k (nt hTW4)
  have t3 := t2.kp hT5.k (nt hTW4)
  have r4 := (r3.kpT t3 hT6.k (nt hT5.t)).k0 (((k67.trans (hW7.kk rfl)).trans k8).trans k9)
  obtain ⟨gb, go, hp3, hat⟩ := r4 0 (kA, 1) rfl
  rw [Nat.zero_mul, Nat.add_zero] at hat
  have hT69 := hT6.t.k0 (((k67.trans (hW7.kk rfl)).trans k8).trans k9)
  refine nn_is hp3 ⟨gimp_intro fun _ => by decide, kA, 1, gimp_intro fun _ => hat, _, gimp_intro fun _ => plEq27 kA kA 1 1, _, gimp_intro fun _ => grEq27 kA kA _ _ _ _ _ _ _ _, bsp_intro (fun _ => ?_) (fun h => ?_)⟩
  · refine ⟨(acprint_any hT69 (gk0 hG k09) (hT.k0 k09) (by decide)).mono fun e w10 ⟨he, k10⟩ => ?_⟩
    rw [kn8] at he
    have k010 := k09.trans k10
    refine ⟨_, he, .of_k0 k10, bsp_intro (fun _ => ?_) (fun h => ?_)⟩
    · exact ⟨(acequal_any (hT9.k0 k10) (hT69.k0 k10)).mono fun e w11 ⟨⟨r, he, hr⟩, k11⟩ => ⟨r, he, .of_k0 k11, by rw [hr.2 rfl]; exact ⟨rfl, k010.trans k11⟩⟩⟩
    · exact absurd h (by simp only [Option.isNone_some, Bool.not_false, Bool.and_true]; decide +kernel)
  · exact absurd h (by decide +kernel)

end Go.Proofs.YtgmmoghagpmpfaaGreatDoor
