/- Chapter 27: the contracts of strings.Split, strings.Cut at a byte, of parseRanges. Texts are not too long; the library's variable MaxLen holds a number. -/
import Derived.Test.YtgmmoghagpmpfaaGreatDoorZ10
import Derived.Test.YtgmmoghagpmpfaaGreatDoorZ09
import Derived.Test.YtgmmoghagpmpfaaGreatDoorProg
import Derived.Test.YtgmmoghagpmpfaaGreatDoorZ02
import Derived.Test.YtgmmoghagpmpfaaGreatDoorZ05
import Derived.Test.YtgmmoghagpmpfaaGreatDoorZ04
import Derived.KernelRfl
import Derived.Test.YtgmmoghagpmpfaaGreatDoorZ08
namespace Go.Proofs.YtgmmoghagpmpfaaGreatDoor
open Go.RowKit Go.Maps Go.Sort

theorem k0_drewN (w : World) (n : Nat) : K0 w (w.drewN n) := ⟨rfl, rfl, rfl, Nat.le_refl _, fun _ _ _ => rfl⟩
theorem split27_any (d : UInt8) (s : ByteArray) (w : World) (hs : s.size ≤ 1073741824) (hG : GW w) :
    Calls Tryz.prog 68 #[.string s, .string ⟨#[d]⟩] w fun e w' => (∃ (p : Option Addr), e = .returned (.slice p (partsC d s).length (partsC d s).length) ∧ StrP w' p (partsC d s)) ∧ K0 w w' := by
  obtain ⟨mm, hG1⟩ := hG
  refine (Tryz.strings_Split s ⟨#[d]⟩ mm w (by omega) hG1 (by show 1 ≤ 1; omega)).mono fun e w2 ⟨he, hw2⟩ => ?_
  have hlen : (partsC d s).length = Lib.countB s ⟨#[d]⟩ + 1 := Lib.splitB_all ⟨#[d]⟩ (by show 0 < 1; omega) 0 _ s rfl
  have hn2 : NewB w (.cells ((partsC d s).map .string).toArray 9) w.heap.size w2 := ⟨rfl, hw2⟩
  rw [← hlen] at he
  exact ⟨⟨_, he, strP_lit hn2.block⟩, hn2.kp _⟩
theorem cut27_any (d : UInt8) (s : ByteArray) (w : World) (hs : s.size ≤ 1073741824) (hG : GW w) :
    Calls Tryz.prog 42 #[.string s, .string ⟨#[d]⟩] w fun e w' => e = .returned (.tuple #[.string (if findC d s < s.size then s.extract 0 (findC d s) else s), .string (if findC d s < s.size then s.extract (findC d s + 1) s.size else ⟨#[]⟩), .bool (decide (findC d s < s.size))]) ∧ K0 w w' := by
  obtain ⟨mm, hG1⟩ := hG
  refine (Tryz.strings_Cut s ⟨#[d]⟩ mm w (by omega) hG1).mono fun e w2 ⟨he, k, hw⟩ => ⟨?_, by rw [hw]; exact k0_drewN w k⟩
  rw [he]
  have e0 : (⟨#[d]⟩ : ByteArray).data.toList = [d] := rfl
  rw [e0]
  by_cases hi : findC d s < s.size
  · rw [cut_hit (findC_first d s) hi, if_pos hi, if_pos hi, decide_eq_true hi]
  · rw [cut_miss (findC_first d s) hi, if_neg hi, if_neg hi, decide_eq_false hi]
theorem drop_cons27 {α : Type} {l : List α} {i : Nat} {x : α} (h : l[i]? = some x) : l.drop i = x :: l.drop (i + 1) := by
  obtain ⟨h1, h2⟩ := List.getElem?_eq_some_iff.1 h
  rw [List.drop_eq_getElem_cons h1, h2]
theorem ivL_cons (hi : Int) (p : ByteArray) (r : List ByteArray) (n : Int) : ivL hi (p :: r) n = match ivP p hi with | some x => if n ≤ x.a then (ivL hi r (x.b + 2)).map (x :: ·) else none | none => none := rfl
set_option maxHeartbeats 2000000 in
theorem acpranges_any (s : ByteArray) (hi : Int) (w : World) (hs : s.size ≤ 1048576) (h0 : 0 ≤ hi ∧ hi ≤ 2147483646) (hG : GW w) :
    Calls Tryz.prog 70 #[.string s, .int .i64 hi] w fun e w' => (match ivL hi (partsC 44 s) 1 with
      | some l => ∃ p c, e = .returned (.tuple #[.slice p (List.length l) c, .bool true]) ∧ w'.ownsRow w.heap.size 105 2 (.slice p l.length c) l.length (l.flatMap ivC)
      | none => e = .returned (.tuple #[.slice none 0 0, .bool false])) ∧ K0 w w' := by
  refine vc_acpranges s hi w _ ⟨(split27_any 44 s w (by omega) hG).mono fun e w1 ⟨⟨p, he, hS⟩, k1⟩ => ⟨_, _, _, he, .of_k0 k1, ?_⟩⟩
  have hpl := parts_len 44 s
  have hps := parts_size 44 s
  generalize partsC 44 s = L at hS hpl hps ⊢
  refine ⟨fun vs w' => ∃ (i : Nat) (acc : List Iv) (q : Option Addr) (c : Nat) (nx : Int), vs = [.int .i64 (i : Int), .slice q acc.length c, .int .i64 nx] ∧ i ≤ L.length ∧ acc.length ≤ i ∧ 0 ≤ nx ∧ nx ≤ 4294967296 ∧ ivL hi L 1 = (ivL hi (L.drop i) nx).map (acc ++ ·) ∧
      w'.ownsRow w1.heap.size 105 2 (.slice q acc.length c) acc.length (acc.flatMap ivC) ∧ K0 w w' ∧ K0 w1 w',
    fun vs _ => (match vs with | .int _ a :: _ => L.length - a.toNat | _ => 0), ⟨0, [], none, 0, 1, rfl, by omega, by simp, by omega, by omega, by rw [List.drop_zero]; cases ivL hi L 1 <;> rfl, World.ownsRow_nil _ _ _ _, k1, .refl _ _⟩, ?_⟩
  rintro x p1 n1 c1 x1 w2 ⟨i, acc, q, c, nx, hv, hi1, hal, hn0, hn1, hE, ho, k2, kk2⟩
  simp only [List.cons.injEq, Value.int.injEq, Value.slice.injEq, true_and, and_true] at hv
  obtain ⟨rfl, ⟨rfl, rfl, rfl⟩, rfl⟩ := hv
  refine bsp_intro (fun hlt => ?_) (fun hge => ?_)
  · have hlt : i < L.length := by simp at hlt; omega
    obtain ⟨t, tb, tq, ht, hp, hc⟩ := (hS.k0 kk2).get hlt
    have htz := hps t (List.mem_of_getElem? ht)
    rw [drop_cons27 ht, ivL_cons] at hE
    have hG2 := hG.kp k2 (fun h => h)
    rw [Int.toNat_natCast]
    have fail : ∀ {w' : World}, K0 w w' → ivL hi L 1 = none → (match ivL hi L 1 with
      | some l => ∃ p c, Ending.returned (Value.tuple #[.slice none 0 0, .bool false]) = .returned (.tuple #[.slice p (List.length l) c, .bool true]) ∧ w'.ownsRow w.heap.size 105 2 (.slice p l.length c) l.length (l.flatMap ivC)
      | none => Ending.returned (Value.tuple #[.slice none 0 0, .bool false]) = .returned (.tuple #[.slice none 0 0, .bool false])) ∧ K0 w w' := fun k e => by
      rw [e]; exact ⟨rfl, k⟩
    -- an interval is appended
    have app : ∀ {w3 : World} (z : Iv), ivP t hi = some z → x1 ≤ z.a → z.b ≤ 2147483646 → 0 ≤ z.b → K0 w2 w3 →
        ∀ (n : Nat) (W : World), Loc w.heap.size [Blk.mk n 105 [.int .i64 z.a, .int .i64 z.b] 2] w3 W → ∃ (base : Nat) (xs : List Value), W.ownsRow base 105 2 (.slice p1 acc.length c1) acc.length xs ∧ acc.length + 1 ≤ 9223372036854775807 ∧ (acc.length + 1) * 16 ≤ 140737488355328 ∧ base ≤ W.heap.size ∧
          ∀ (p' : Option Addr) (c' : Nat) (w' : World), w'.ownsRow base 105 2 (.slice p' (acc.length + 1) c') (acc.length + 1) (xs ++ [.int .i64 z.a, .int .i64 z.b]) → W.grownBy w' (Value.slice p1 acc.length c1).ownBlock → AppL W p1 acc.length c1 1 p' c' → KeptL [] W w' ∧
          (∃ (j : Nat) (acc' : List Iv) (q : Option Addr) (c : Nat) (nx : Int), [Value.int .i64 (IntKind.i64.wrap ((i : Int) + 1)), .slice p' (acc.length + 1) c', .int .i64 (IntKind.i64.wrap (z.b + 2))] = [.int .i64 (j : Int), .slice q acc'.length c, .int .i64 nx] ∧ j ≤ L.length ∧ acc'.length ≤ j ∧ 0 ≤ nx ∧ nx ≤ 4294967296 ∧ ivL hi L 1 = (ivL hi (L.drop j) nx).map (acc' ++ ·) ∧
            w'.ownsRow w1.heap.size 105 2 (.slice q acc'.length c) acc'.length (acc'.flatMap ivC) ∧ K0 w w' ∧ K0 w1 w') ∧ L.length - (IntKind.i64.wrap ((i : Int) + 1)).toNat < L.length - ((i : Nat) : Int).toNat := by
      intro w3 z hz hza hzb hzb0 k23 n W hW
      rw [hz] at hE
      simp only at hE
      rw [if_pos hza] at hE
      have k3 : K0 w2 W := k23.trans (hW.kk rfl)
      have ho3 := owns_kp ho k3 (fun _ _ h => h)
      refine ⟨w1.heap.size, _, ho3, by omega, by omega, (kk2.trans k3).size, fun p' c' w' ho' hg' _ => ⟨⟨hg'.size, fun _ hm => by cases hm⟩, ⟨i + 1, acc ++ [z], p', c', z.b + 2, ?_, hlt, by simp; omega, by omega, by omega, ?_, ?_, (k2.trans k3).fresh (kp_grown hg') (fun j hj e => by have := own_ge ho3 e; have := k1.size; omega), (kk2.trans k3).fresh (kp_grown hg') (fun j hj e => by have := own_ge ho3 e; omega)⟩, ?_⟩⟩
      · rw [inc64 (by omega), wr64 (by omega) (by omega), List.length_append]; rfl
      · rw [hE]
        cases ivL hi (L.drop (i + 1)) (z.b + 2) with
        | none => rfl
        | some l => simp
      · rw [List.flatMap_append, List.length_append]
        exact ho'
      · rw [inc64 (by omega)]; simp only [Int.toNat_natCast]; omega
    refine nn_is hp ⟨⟨by omega, by omega⟩, t, hc, ⟨(cut27_any 45 t w2 (by omega) hG2).mono fun e w3 ⟨he, k3⟩ => ⟨_, _, _, he, .of_k0 k3, ?_⟩⟩⟩
    by_cases hk : findC 45 t < t.size
    · rw [if_pos hk, if_pos hk, decide_eq_true hk]
      have zl : (t.extract 0 (findC 45 t)).size ≤ 1048576 := by rw [ByteArray.size_extract]; omega
      have zu : (t.extract (findC 45 t + 1) t.size).size ≤ 1048576 := by rw [ByteArray.size_extract]; omega
      have eP : ivP t hi = if (numR (t.extract 0 (findC 45 t)) hi).2 = 0 ∧ (numR (t.extract (findC 45 t + 1) t.size) hi).2 = 0 ∧ (numR (t.extract 0 (findC 45 t)) hi).1 < (numR (t.extract (findC 45 t + 1) t.size) hi).1
        then some ⟨(numR (t.extract 0 (findC 45 t)) hi).1, (numR (t.extract (findC 45 t + 1) t.size) hi).1⟩ else none := by unfold ivP; rw [if_pos hk]
      refine ⟨(anum_any (t.extract 0 (findC 45 t)) hi w3 (by omega) (by omega)).mono fun e w4 ⟨he, k4⟩ => ⟨_, _, he, .of_k0 k4, bsp_intro (fun hb => ?_) (fun hb => bsp_intro (fun _ => ⟨(anum_any (t.extract (findC 45 t + 1) t.size) hi w4 (by omega) (by omega)).mono fun e w5 ⟨he, k5⟩ => ⟨_, _, he, .of_k0 k5, bsp_intro (fun hd => ?_) (fun hd => ?_)⟩⟩) (fun h => by cases h))⟩⟩
      · refine fail ((k2.trans k3).trans k4) ?_
        rw [hE, eP]
        simp only [Bool.or_eq_true, bne_iff_ne, ne_eq, decide_eq_true_eq] at hb
        split
        · rename_i z hz
          split at hz
          · rename_i hh
            cases hz
            rcases hb with hb | hb
            · exact absurd hh.1 hb
            · rw [if_neg (by show ¬ x1 ≤ (numR _ hi).1; omega)]; rfl
          · cases hz
        · rfl
      · refine fail (((k2.trans k3).trans k4).trans k5) ?_
        rw [hE, eP]
        simp only [Bool.or_eq_true, bne_iff_ne, ne_eq, decide_eq_true_eq] at hd
        rw [if_neg (fun hh => by
          rcases hd with hd | hd
          · exact hd hh.2.1
          · omega)]
        rfl
      · simp only [Bool.or_eq_false_iff, bne_eq_false_iff_eq, decide_eq_false_iff_not] at hb hd
        obtain ⟨_, u1, u2, _⟩ := numR_ok hb.1
        obtain ⟨_, v1, v2, _⟩ := numR_ok hd.1
        exact app ⟨(numR (t.extract 0 (findC 45 t)) hi).1, (numR (t.extract (findC 45 t + 1) t.size) hi).1⟩ (by rw [eP, if_pos ⟨hb.1, hd.1, by omega⟩]) (by show x1 ≤ (numR _ hi).1; omega) (by show (numR _ hi).1 ≤ _; omega) v1 ((k3.trans k4).trans k5)
    · rw [if_neg hk, if_neg hk, decide_eq_false hk]
      have eP : ivP t hi = if (numR t hi).2 = 0 then some ⟨(numR t hi).1, (numR t hi).1⟩ else none := by unfold ivP; rw [if_neg hk]
      refine ⟨(anum_any t hi w3 (by omega) (by omega)).mono fun e w4 ⟨he, k4⟩ => ⟨_, _, he, .of_k0 k4, bsp_intro (fun hb => ?_) (fun hb => bsp_intro (fun h => by cases h) (fun _ => ?_))⟩⟩
      · refine fail ((k2.trans k3).trans k4) ?_
        rw [hE, eP]
        simp only [Bool.or_eq_true, bne_iff_ne, ne_eq, decide_eq_true_eq] at hb
        split
        · rename_i z hz
          split at hz
          · rename_i hh
            cases hz
            rcases hb with hb | hb
            · exact absurd hh hb
            · rw [if_neg (by show ¬ x1 ≤ (numR t hi).1; omega)]; rfl
          · cases hz
        · rfl
      · simp only [Bool.or_eq_false_iff, bne_eq_false_iff_eq, decide_eq_false_iff_not] at hb
        obtain ⟨_, u1, u2, _⟩ := numR_ok hb.1
        exact app ⟨(numR t hi).1, (numR t hi).1⟩ (by rw [eP, if_pos hb.1]) (by show x1 ≤ (numR t hi).1; omega) (by show (numR t hi).1 ≤ _; omega) u1 (k3.trans k4)
  · have hi2 : i = L.length := by simp at hge; omega
    subst hi2
    rw [List.drop_length] at hE
    have e2 : ivL hi L 1 = some acc := by rw [hE]; simp [ivL]
    rw [e2]
    exact ⟨⟨p1, c1, rfl, own_base ho k1.size⟩, k2⟩

end Go.Proofs.YtgmmoghagpmpfaaGreatDoor

/- Chapter 27: the contract of Remove. Names are not too long, the number is in range. -/
namespace Go.Proofs.YtgmmoghagpmpfaaGreatDoor
open Go.RowKit Go.Maps Go.Sort

theorem remI_snoc {l : List Iv} {i : Nat} {x : Iv} (h : l[i]? = some x) (n : Int) : remI (l.take (i + 1)) n = remI (l.take i) n ++ (if n < x.a ∨ x.b < n then [x] else keepI x.a (n - 1) ++ keepI (n + 1) x.b) := by
  rw [take_snoc h]
  unfold remI
  rw [List.flatMap_append]
  simp
section
variable {w : World} {B b mb : Nat} {m : TM} {A : TA}
set_option maxHeartbeats 2000000 in
theorem acremove_any (h : Tq w B b mb m A) (s : ByteArray) (hs : s.size ≤ 1073741824) (v : Int) (hv0 : -9223372036854775808 ≤ v ∧ v ≤ 9223372036854775807) :
    Calls Tryz.prog 33 #[.pointer (some ⟨b, 0, none⟩), .agg #[.string s, .int .i64 v]] w fun e w' => e = .returned (.int .i64 (rmA A s v).2) ∧ ∃ m', Ts w w' B b mb m (rmA A s v).1 m' := by
  refine vc_acremove b s v w _ (fun n W hW => ?_)
  have kW : K0 w W := hW.kk rfl
  have cn := hW.cells 0 rfl
  have gn : w.heap.size ≤ n := hW.fresh 0 rfl rfl
  unfold rmA
  cases hx : aget m s with
  | none =>
    refine ⟨(acfindN (h.k0 kW) s hs hx).mono fun e w1 ⟨he, k1⟩ => ⟨_, _, _, _, _, _, he, .of_k0 k1, fun n2 => ?_⟩⟩
    rw [h.getN hx]
    exact bsp_intro (fun _ W2 hW2 => ⟨rfl, m, h.same (hW2.k0 (kW.trans k1))⟩) (fun hb => by simp at hb)
  | some x =>
    refine ⟨(acfindS (h.k0 kW) s hs hx).mono fun e w1 ⟨he, k1⟩ => ⟨_, _, _, _, _, _, he, .of_k0 k1, fun n2 => ?_⟩⟩
    have k01 : K0 w w1 := kW.trans k1
    rw [h.getS hx]
    simp only
    obtain ⟨hiv, h0, hm, hel⟩ := h.ivOf hx
    have hll := h.lenOf hx
    refine bsp_intro (fun hb => by simp at hb) (fun _ W2 hW2 => ?_)
    have k2 : K0 w W2 := hW2.k0 k01
    have kk2 : K0 W W2 := k1.trans (hW2.kk rfl)
    have gn2 : w.heap.size ≤ n2 := Nat.le_trans k01.size (hW2.fresh 0 rfl rfl)
    refine ⟨(ahasg_any x.v.h x.v.c x.v.l x.p x.c v W2 ((h.rowOf hx).k0 k2) (by omega)).mono fun e w3 ⟨he, k3⟩ => ⟨_, he, .of_k0 k3, bsp_intro (fun hb => ?_) (fun hb n3 W3 hW3 => ?_)⟩⟩
    · have hb : hasI x.v.l v = false := by simpa using hb
      rw [hb, if_neg (by simp)]
      exact ⟨rfl, m, h.same (k2.trans k3)⟩
    have hb : hasI x.v.l v = true := by simpa using hb
    rw [if_pos hb]
    have k3' : K0 w w3 := k2.trans k3
    have kW3 : K0 w W3 := hW3.k0 k3'
    have kk3 : K0 W W3 := (kk2.trans k3).trans (hW3.kk rfl)
    have c3 := hW3.cells 0 rfl
    have gn3 : w3.heap.size ≤ n3 := hW3.fresh 0 rfl rfl
    have ln3 := block_lt c3
    have a1 := hW3.apart 0 1 rfl rfl (by decide)
    have a2 := hW3.apart 0 2 rfl rfl (by decide)
    have ln : n < W3.heap.size := Nat.lt_of_lt_of_le (block_lt cn) kk3.size
    have ln2 := block_lt (hW3.cells 1 rfl)
    simp only at ln3 a1 a2 ln2
    refine ⟨fun vs w' => ∃ (i : Nat) (acc : List Iv) (p : Option Addr) (c : Nat), vs = [.int .i64 (i : Int)] ∧ i ≤ x.v.l.length ∧ acc = remI (x.v.l.take i) v ∧ w'.heap[n3]? = some (.cells #[.slice p acc.length c] 92 (0, 0)) ∧ w'.ownsRow W3.heap.size 105 2 (.slice p acc.length c) acc.length (acc.flatMap ivC) ∧ K0 w w' ∧ Kp (fun k => k = n3) W3 w',
      fun vs _ => (match vs with | .int _ a :: _ => x.v.l.length - a.toNat | _ => 0), ⟨0, [], none, 0, rfl, by omega, rfl, c3, World.ownsRow_nil _ _ _ _, kW3, .refl _ _⟩, ?_⟩
    rintro q w4 ⟨i, acc, p, c, hv, hi, hacc, c4, ho4, k4, kk4⟩ hL4
    simp only [List.cons.injEq, Value.int.injEq, true_and, and_true] at hv
    subst hv
    have hal : acc.length ≤ 2 * i := by
      have := remI_len (x.v.l.take i) v
      rw [← hacc, List.length_take] at this
      omega
    refine bsp_intro (fun hlt => ?_) (fun hge => ?_)
    · have hlt : i < x.v.l.length := by simp at hlt; omega
      obtain ⟨z, zb, zo, hz, hzp, hzat⟩ := ((h.rowOf hx).k0 k4).get hlt
      have hzz := hiv.mem z (List.mem_of_getElem? hz)
      have hsn := remI_snoc hz v
      rw [← hacc] at hsn
      rw [Int.toNat_natCast]
      have hs3 : W3.heap.size ≤ w4.heap.size := kk4.size
      -- a call of the closure
      have keep : ∀ {W5 : World} {acc' : List Iv} {p' : Option Addr} {c' n4 : Nat} (u1 u2 : Int), W5.heap[n3]? = some (.cells #[.slice p' acc'.length c'] 92 (0, 0)) → W5.ownsRow W3.heap.size 105 2 (.slice p' acc'.length c') acc'.length (acc'.flatMap ivC) → K0 w W5 → Kp (fun k => k = n3) W3 W5 → acc'.length ≤ 4294967296 → n4 < W5.heap.size → w4.heap.size ≤ n4 → (∀ k, (Value.slice p' acc'.length c').ownBlock = some k → k ≠ n4) →
          Calls Tryz.prog 65 #[.int .i64 u1, .int .i64 u2, .pointer (some ⟨n3, 0, none⟩)] W5 fun e w6 => e = .returned (.tuple #[]) ∧ KeptL [n2, n, n4] W5 w6 ∧ ∃ p'' c'', w6.heap[n3]? = some (.cells #[.slice p'' (acc' ++ keepI u1 u2).length c''] 92 (0, 0)) ∧ w6.ownsRow W3.heap.size 105 2 (.slice p'' (acc' ++ keepI u1 u2).length c'') (acc' ++ keepI u1 u2).length ((acc' ++ keepI u1 u2).flatMap ivC) ∧ K0 w w6 ∧ Kp (fun k => k = n3) W3 w6 ∧ W5.heap.size ≤ w6.heap.size ∧ ∀ k, (Value.slice p'' (acc' ++ keepI u1 u2).length c'').ownBlock = some k → k ≠ n4 := by
        intro W5 acc' p' c' n4 u1 u2 c5 ho5 k5 kk5 hal5 hn4 hn4w hne
        refine (akeep_any u1 u2 n3 acc' p' c' W3.heap.size W5 c5 ho5 ln3 kk5.size hal5).mono fun e w6 ⟨he, ⟨p'', c'', c6, ho6, hf6⟩, k6⟩ => ⟨he, .of_kp k6 (fun k hk e => ?_), p'', c'', c6, ho6, k5.fresh k6 (fun j hj e => ?_), kk5.fresh k6 (fun j hj e => ?_), k6.size, fun k hk e => ?_⟩
        · simp only [List.mem_cons, List.not_mem_nil, or_false] at hk
          rcases hk with rfl | rfl | rfl
          · rcases e with e | e
            · exact a1 e.symm
            · have := own_ge ho5 e; omega
          · rcases e with e | e
            · exact a2 e.symm
            · have := own_ge ho5 e; omega
          · rcases e with e | e
            · omega
            · exact hne _ e rfl
        · have hw3 := kW3.size
          have hk3 := k3'.size
          rcases e with e | e
          · omega
          · have := own_ge ho5 e; omega
        · rcases e with e | e
          · exact e
          · have := own_ge ho5 e; omega
        · subst e
          rcases hf6 k hk with e2 | e2
          · exact hne k e2 rfl
          · omega
      refine nn_is hzp ⟨⟨by omega, by omega⟩, z.a, z.b, hzat, fun n4 => ⟨v, gimp_intro fun _ W5 hW5 => ?_, z.b, gimp_intro fun _ W5 hW5 => cell_at (hW5.cells 2 rfl) rfl, bsp_intro (fun hc W5 hW5 => ?_) (fun hc W5 hW5 => ?_)⟩⟩
      · exact cell_at ((hW5.kk rfl : K0 w4 W5).blk (hL4.cells 1 rfl) (fun h => h)) rfl
      · have hc : v < z.a ∨ z.b < v := by simpa using hc
        have k45 : K0 w4 W5 := hW5.kk rfl
        have g4 : w4.heap.size ≤ n4 := hW5.fresh 2 rfl rfl
        have l4 := block_lt (hW5.cells 2 rfl)
        simp only at l4
        refine ⟨65, #[], #[.pointer (some ⟨n3, 0, none⟩)], rfl, by kernel_rfl, ⟨(keep z.a z.b (k45.blk c4 (fun h => h)) (owns_kp ho4 k45 (fun _ _ h => h)) (k4.trans k45) (kk4.trans (k45.mono fun _ _ e => e.elim)) (by omega) l4 g4 (fun k hk e => by have := own_lt ho4 hk; omega)).mono fun e w6 ⟨he, hK, p'', c'', c6, ho6, k6, kk6, _, _⟩ => ⟨he, hK, ?_, ?_⟩⟩⟩
        · rw [inc64 (by omega)]
          have ek : keepI z.a z.b = [z] := by unfold keepI; rw [if_pos hzz.2.1]
          rw [ek] at c6 ho6
          exact ⟨i + 1, acc ++ [z], p'', c'', rfl, by omega, by rw [hsn, if_pos hc], c6, ho6, k6, kk6⟩
        · rw [inc64 (by omega)]; simp only [Int.toNat_natCast]; omega
      · have hc : ¬ (v < z.a ∨ z.b < v) := by
          intro e
          rcases e with e | e
          · simp [e] at hc
          · simp at hc; omega
        have k45 : K0 w4 W5 := hW5.kk rfl
        have g4 : w4.heap.size ≤ n4 := hW5.fresh 2 rfl rfl
        have l4 := block_lt (hW5.cells 2 rfl)
        simp only at l4
        rw [wr64 (x := v - 1) (by omega) (by omega), wr64 (x := v + 1) (by omega) (by omega)]
        refine ⟨65, #[], #[.pointer (some ⟨n3, 0, none⟩)], rfl, by kernel_rfl, ⟨(keep z.a (v - 1) (k45.blk c4 (fun h => h)) (owns_kp ho4 k45 (fun _ _ h => h)) (k4.trans k45) (kk4.trans (k45.mono fun _ _ e => e.elim)) (by omega) l4 g4 (fun k hk e => by have := own_lt ho4 hk; omega)).mono fun e w6 ⟨he, hK, p'', c'', c6, ho6, k6, kk6, s6, n6⟩ => ⟨he, hK, ?_⟩⟩⟩
        have hk1 : (keepI z.a (v - 1)).length ≤ 1 := by unfold keepI; split <;> simp
        refine ⟨65, #[], #[.pointer (some ⟨n3, 0, none⟩)], rfl, by kernel_rfl, ⟨(keep (v + 1) z.b c6 ho6 k6 kk6 (by rw [List.length_append]; omega) (by omega) g4 n6).mono fun e w7 ⟨he, hK, p'', c'', c7, ho7, k7, kk7, s7, n7⟩ => ⟨he, hK, ?_, ?_⟩⟩⟩
        · rw [inc64 (by omega)]
          exact ⟨i + 1, _, p'', c'', rfl, by omega, by rw [hsn, if_neg hc, List.append_assoc], c7, ho7, k7, kk7⟩
        · rw [inc64 (by omega)]; simp only [Int.toNat_natCast]; omega
    · have hi2 : i = x.v.l.length := by simp at hge; omega
      subst hi2
      rw [List.take_length] at hacc
      refine ⟨p, acc.length, c, cell_at c4 rfl, some mb, fun W5 hW5 => (h.k0 (hW5.k0 k4)).z.cM, fun W5 hW5 => ?_⟩
      have kW5 : K0 w W5 := hW5.k0 k4
      have ho5 : W5.ownsRow W3.heap.size 105 2 (.slice p acc.length c) acc.length (acc.flatMap ivC) := owns_kp ho4 hW5.kp (fun k hk ⟨y, hy, e1, e2⟩ => by
        have := own_ge ho4 hk
        simp only [List.mem_cons, List.not_mem_nil, or_false] at hy
        rcases hy with rfl | rfl
        · simp only at e2; omega
        · simp only at e2; omega)
      have hBW : B ≤ W3.heap.size := by
        have := h.z.gb
        have := block_lt h.z.st
        have := kW3.size
        omega
      have hown : Gx.own W5 B ⟨⟨x.v.h, x.v.c, acc⟩, p, c⟩ := own_base ho5 hBW
      obtain ⟨w6, hu, hT, k6⟩ := Ts.put (w := W5) h (x := ⟨⟨x.v.h, x.v.c, acc⟩, p, c⟩) hx (kW5.mono fun _ _ e => e.elim) hs hown (fun k (hk : (Value.slice p acc.length c).ownBlock = some k) => .inr (by have := own_ge ho5 hk; have := kW3.size; omega)) (h.wf.set (h.getS hx) (v := ⟨x.v.h, x.v.c, acc⟩) ⟨h0, hm⟩ (by rw [hacc]; exact remI_ok hiv))
      refine ⟨w6, hu, h.z.keptL k6 (fun k hk => ?_), rfl, aset m s ⟨⟨x.v.h, x.v.c, acc⟩, p, c⟩, ?_⟩
      · simp only [List.mem_cons, List.not_mem_nil, or_false] at hk
        rcases hk with rfl | rfl
        · exact gn2
        · exact gn
      · rw [← hacc]; exact hT
end

end Go.Proofs.YtgmmoghagpmpfaaGreatDoor

/- The formulas of functions by the symbolic evaluator, and that each gives the call's contract. Written by a program (gen.py). No condition. -/
namespace Go.Proofs.YtgmmoghagpmpfaaGreatDoor
set_option maxRecDepth 100000
set_option linter.unusedVariables false

def VC_acassign (b : Nat) (p : Option Addr) (n : Nat) (c : Nat) (w : World) (R : Ending → World → Prop) : Prop :=
 bsp ((some (Addr.mk b 0 none)).isNone || (↑n : Int) == 0)
 (R (Ending.returned (Value.tuple #[Value.slice none 0 0, Value.int IntKind.i64 1])) w)
 (∃ (I : List Value → World → Prop),
 ∃ (m : List Value → World → Nat),
 I [Value.int IntKind.i64 0] w ∧
 ∀ (x : Int) (w' : World),
 I [Value.int IntKind.i64 x] w' →
 bsp (decide (x < (↑n : Int)))
 (nn true p fun (b o : Nat) =>
 (0 ≤ x ∧ x < (↑n : Int)) ∧
 ∃ (x_1 : ByteArray),
 w'.cell? (Addr.mk b (o + x.toNat) none) = some (Value.string x_1) ∧
 (0 ≤ x ∧ x ≤ (↑c : Int)) ∧
 CallsS Tryz.prog 60 #[Value.slice p x.toNat c, Value.string x_1] w' fun (e : Ending) (w'_1 : World) =>
 ∃ (x_2 : Bool),
 e = Ending.returned (Value.bool x_2) ∧
 KeptL [] w' w'_1 ∧
 bsp x_2 (R (Ending.returned (Value.tuple #[Value.slice none 0 0, Value.int IntKind.i64 7])) w'_1)
 (I [Value.int IntKind.i64 (IntKind.i64.wrap (x + 1))] w'_1 ∧
 m [Value.int IntKind.i64 (IntKind.i64.wrap (x + 1))] w'_1 < m [Value.int IntKind.i64 x] w'))
 (∃ (I : List Value → World → Prop),
 ∃ (m : List Value → World → Nat),
 I [Value.int IntKind.i64 0, Value.int IntKind.i64 0] w' ∧
 ∀ (x x_1 : Int) (w' : World),
 I [Value.int IntKind.i64 x, Value.int IntKind.i64 x_1] w' →
 bsp (decide (x < (↑n : Int)))
 (nn true p fun (b_1 o : Nat) =>
 (0 ≤ x ∧ x < (↑n : Int)) ∧
 ∃ (x_2 : ByteArray),
 w'.cell? (Addr.mk b_1 (o + x.toNat) none) = some (Value.string x_2) ∧
 ∃ (x_3 : Option Nat),
 w'.cell? (Addr.mk b 0 none) = some (Value.map x_3) ∧
 ∃ (x_4 : Int),
 ∃ (x_5 : Bool),
 ∃ (p : Option Addr),
 ∃ (n : Nat),
 ∃ (c : Nat),
 ∃ (b : Bool),
 LookP Tryz.prog 97 (Value.map x_3) (Value.string x_2) true
 (Value.tuple
 #[Value.agg #[Value.int IntKind.i64 x_4, Value.bool x_5, Value.slice p n c], Value.bool b])
 w' ∧
 ∀ (n_1 : Nat),
 bsp (!b)
 (∀ (W : World),
 Loc w.heap.size
 [Blk.mk n_1 94 [Value.int IntKind.i64 x_4, Value.bool x_5, Value.slice p n c] (wrM 2)] w'
 W →
 R (Ending.returned (Value.tuple #[Value.slice none 0 0, Value.int IntKind.i64 8])) W)
 (bsp x_5
 (∀ (W : World),
 Loc w.heap.size
 [Blk.mk n_1 94 [Value.int IntKind.i64 x_4, Value.bool x_5, Value.slice p n c] (wrM 2)]
 w' W →
 R (Ending.returned (Value.tuple #[Value.slice none 0 0, Value.int IntKind.i64 10])) W)
 (bsp (decide (x_4 ≥ 2147483646))
 (∀ (W : World),
 Loc w.heap.size
 [Blk.mk n_1 94 [Value.int IntKind.i64 x_4, Value.bool x_5, Value.slice p n c] (wrM 2)]
 w' W →
 R (Ending.returned (Value.tuple #[Value.slice none 0 0, Value.int IntKind.i64 9])) W)
 (∀ (W : World),
 Loc w.heap.size
 [Blk.mk n_1 94 [Value.int IntKind.i64 x_4, Value.bool x_5, Value.slice p n c] (wrM 2)]
 w' W →
 I [Value.int IntKind.i64 (IntKind.i64.wrap (x + 1)), Value.int IntKind.i64 x_1] W ∧
 m [Value.int IntKind.i64 (IntKind.i64.wrap (x + 1)), Value.int IntKind.i64 x_1] W <
 m [Value.int IntKind.i64 x, Value.int IntKind.i64 x_1] w'))))
 (bsp (x_1 != 0) (R (Ending.returned (Value.tuple #[Value.slice none 0 0, Value.int IntKind.i64 x_1])) w')
 (∃ (I : List Value → World → Prop),
 ∃ (m : List Value → World → Nat),
 I [Value.int IntKind.i64 0, Value.slice none 0 0] w' ∧
 ∀ (x : Int) (p_1 : Option Addr) (n_1 c : Nat) (w' : World),
 I [Value.int IntKind.i64 x, Value.slice p_1 n_1 c] w' →
 bsp (decide (x < (↑n : Int)))
 (nn true p fun (b_1 o : Nat) =>
 (0 ≤ x ∧ x < (↑n : Int)) ∧
 ∃ (x_2 : ByteArray),
 w'.cell? (Addr.mk b_1 (o + x.toNat) none) = some (Value.string x_2) ∧
 ∃ (x_3 : Option Nat),
 w'.cell? (Addr.mk b 0 none) = some (Value.map x_3) ∧
 ∃ (x_4 : Int),
 ∃ (x_5 : Bool),
 ∃ (p : Option Addr),
 ∃ (n : Nat),
 ∃ (c_1 : Nat),
 LookP Tryz.prog 97 (Value.map x_3) (Value.string x_2) false
 (Value.agg #[Value.int IntKind.i64 x_4, Value.bool x_5, Value.slice p n c_1]) w' ∧
 ∀ (n_2 : Nat) (W : World),
 Loc w.heap.size
 [Blk.mk n_2 94
 [Value.int IntKind.i64 (IntKind.i64.wrap (x_4 + 1)), Value.bool x_5,
 Value.slice p n c_1]
 (wrM (wrM 2))]
 w' W →
 CallsS Tryz.prog 61
 #[Value.slice p n c_1, Value.int IntKind.i64 (IntKind.i64.wrap (x_4 + 1))] W
 fun (e : Ending) (w'_1 : World) =>
 ∃ (p : Option Addr),
 ∃ (n : Nat),
 ∃ (c_2 : Nat),
 e = Ending.returned (Value.slice p n c_2) ∧
 KeptL [n_2] W w'_1 ∧
 ∃ (x_6 : Option Nat),
 (∀ (W : World),
 Loc w.heap.size
 [Blk.mk n_2 94
 [Value.int IntKind.i64 (IntKind.i64.wrap (x_4 + 1)), Value.bool x_5,
 Value.slice p n c_2]
 (wrM 0)]
 w'_1 W →
 W.cell? (Addr.mk b 0 none) = some (Value.map x_6)) ∧
 ∀ (W : World),
 Loc w.heap.size
 [Blk.mk n_2 94
 [Value.int IntKind.i64 (IntKind.i64.wrap (x_4 + 1)), Value.bool x_5,
 Value.slice p n c_2]
 (wrM 0)]
 w'_1 W →
 ∃ (w1 : World),
 UpdP Tryz.prog 97 (Value.map x_6) (Value.string x_2)
 (Value.agg
 #[Value.int IntKind.i64 (IntKind.i64.wrap (x_4 + 1)), Value.bool x_5,
 Value.slice p n c_2])
 W w1 ∧
 KeptL [n_2] W w1 ∧
 ∀ (n_3 : Nat) (W : World),
 Loc w.heap.size
 [Blk.mk n_3 64
 [Value.string x_2,
 Value.int IntKind.i64 (IntKind.i64.wrap (x_4 + 1))]
 2,
 Blk.mk n_2 94
 [Value.int IntKind.i64 (IntKind.i64.wrap (x_4 + 1)), Value.bool x_5,
 Value.slice p n c_2]
 0]
 w1 W →
 ∃ (base : Nat),
 ∃ (xs : List Value),
 W.ownsRow base 64 2 (Value.slice p_1 n_1 c) n_1 xs ∧
 n_1 + 1 ≤ 9223372036854775807 ∧
 (n_1 + 1) * 24 ≤ 140737488355328 ∧
 base ≤ W.heap.size ∧
 ∀ (p' : Option Addr) (c' : Nat) (w'_2 : World),
 w'_2.ownsRow base 64 2 (Value.slice p' (n_1 + 1) c') (n_1 + 1)
 (xs ++
 [Value.string x_2,
 Value.int IntKind.i64 (IntKind.i64.wrap (x_4 + 1))]) →
 W.grownBy w'_2 (Value.slice p_1 n_1 c).ownBlock →
 AppL W p_1 n_1 c 1 p' c' →
 KeptL [n_2] W w'_2 ∧
 I
 [Value.int IntKind.i64 (IntKind.i64.wrap (x + 1)),
 Value.slice p' (n_1 + 1) c']
 w'_2 ∧
 m
 [Value.int IntKind.i64 (IntKind.i64.wrap (x + 1)),
 Value.slice p' (n_1 + 1) c']
 w'_2 <
 m [Value.int IntKind.i64 x, Value.slice p_1 n_1 c] w')
 (R (Ending.returned (Value.tuple #[Value.slice p_1 n_1 c, Value.int IntKind.i64 0])) w')))))
theorem vc_acassign (b : Nat) (p : Option Addr) (n : Nat) (c : Nat) (w : World) (R : Ending → World → Prop) (h : VC_acassign b p n c w R) : Calls Tryz.prog 27 ([Value.pointer
    (some { block := b, off := 0 }),
  Value.slice p n c] : List Value).toArray w R := by
  have e : execR2 { P := Tryz.prog, loops := [(4, [(26, Ck.int IntKind.i64)]), (11, [(39, Ck.int IntKind.i64), (8, Ck.int IntKind.i64)]), (25, [(68, Ck.int IntKind.i64), (13, Ck.slice)])], pur := pur1, tails := [(30, 6)], joins := [], boxes := [] } Tryz.f27.results.toList R (Tryz.f27.body.getD .skip) (initF [Value.pointer
    (some { block := b, off := 0 }),
  Value.slice p n
    c] (Tryz.f27.ntmps - ([Value.pointer (some { block := b, off := 0 }),
  Value.slice p n c] : List Value).length)) w = VC_acassign b p n c w R := by kernel_rfl
  have hb : Tryz.f27.body = some (Tryz.f27.body.getD .skip) := by kernel_rfl
  exact calls_of_exec2' (P := Tryz.prog) (fn := Tryz.f27) (c := Tryz.f27.body.getD .skip) (args := [Value.pointer
    (some { block := b, off := 0 }),
  Value.slice p n c]) (w := w) (R := R) pur1_ok Tryz.func27 hb e h

end Go.Proofs.YtgmmoghagpmpfaaGreatDoor

/- Chapter 27: the contract of Assign. Names are not too long and lie in a row of texts. -/
namespace Go.Proofs.YtgmmoghagpmpfaaGreatDoor
open Go.RowKit Go.Maps Go.Sort

theorem scont27_any (l : List ByteArray) (p : Option Addr) (i c : Nat) (x : ByteArray) (w : World) (hS : StrP w p l) (hi : i ≤ l.length) (hl : l.length ≤ 4611686018427387904) :
    Calls Tryz.prog 60 #[.slice p i c, .string x] w fun e w' => e = .returned (.bool (Lib.containsS (l.take i) x)) ∧ w' = w := by
  rcases Nat.eq_zero_or_pos i with h0 | h0
  · subst h0
    exact (Tryz.slices_Contains_string_empty p c x w).mono fun e w' ⟨he, hw⟩ => ⟨by rw [he, List.take_zero]; rfl, hw⟩
  · obtain ⟨y, b, o, hy, hp, hc⟩ := hS.get (k := 0) (by omega)
    subst hp
    refine (Tryz.slices_Contains_string b o i c l x w hi (by omega) (fun j hj => ?_)).mono fun e w' ⟨he, hw⟩ => ⟨?_, hw⟩
    · obtain ⟨z, b', o', hz, hp', hc'⟩ := hS.get hj
      cases hp'
      rw [hc', List.getD_eq_getElem?_getD, hz]; rfl
    · exact he
/-- A place. -/
def plC (x : ByteArray × Int) : List Value := [.string x.1, .int .i64 x.2]
theorem plC_length (x : ByteArray × Int) : (plC x).length = 2 := rfl
section
variable {w : World} {B b mb : Nat} {m : TM} {A : TA}
set_option maxHeartbeats 2000000 in
theorem acassign_any (h : Tq w B b mb m A) (l : List ByteArray) (p : Option Addr) (c : Nat) (hS : StrP w p l) (hT : TyN 9 w p) (hl : l.length ≤ 1000) (hlc : l.length ≤ c) (hz : ∀ s ∈ l, s.size ≤ 1073741824) :
    Calls Tryz.prog 27 #[.pointer (some ⟨b, 0, none⟩), .slice p l.length c] w fun e w' =>
      (∃ p' c', e = .returned (.tuple #[.slice p' (l.zip (asR A l).2.1).length c', .int .i64 (asR A l).2.2]) ∧ RowA plC 2 w' p' (l.zip (asR A l).2.1) ∧ TyN 64 w' p') ∧ ∃ m', Ts w w' B b mb m (asR A l).1 m' := by
  unfold asR
  refine vc_acassign b p l.length c w _ (bsp_intro (fun h0 => ?_) (fun h0 => ?_))
  · have h0 : l.length = 0 := by simp at h0; simp [h0]
    rw [if_pos h0]
    have : l = [] := List.eq_nil_of_length_eq_zero h0
    subst this
    exact ⟨⟨none, 0, rfl, RowA.nil, TyN.none⟩, m, h.same (.refl _ _)⟩
  have h0 : ¬ l.length = 0 := by intro e; rw [e] at h0; simp at h0
  rw [if_neg h0]
  have hSk : ∀ {w' : World} {M : Nat → Prop}, Kp M w w' → (∀ k c f, w.heap[k]? = some (.cells c 9 f) → ¬ M k) → StrP w' p l := fun hk hm => hS.kp hk (fun b o e => by
    obtain ⟨c, f, hc⟩ := hT b o e
    exact hm b c f hc)
  refine ⟨fun vs w' => ∃ i : Nat, vs = [.int .i64 (i : Int)] ∧ i ≤ l.length ∧ (l.take i).Nodup ∧ w' = w, fun vs _ => (match vs with | .int _ a :: _ => l.length - a.toNat | _ => 0), ⟨0, rfl, by omega, List.nodup_nil, rfl⟩, ?_⟩
  rintro x w1 ⟨i, hv, hi, hnd, rfl⟩
  simp only [List.cons.injEq, Value.int.injEq, true_and, and_true] at hv
  subst hv
  refine bsp_intro (fun hlt => ?_) (fun hge => ?_)
  · have hlt : i < l.length := by simp at hlt; omega
    obtain ⟨s, sb, so, hs, hp, hc⟩ := hS.get hlt
    rw [Int.toNat_natCast]
    refine nn_is hp ⟨⟨by omega, by omega⟩, s, hc, ⟨by omega, by omega⟩, ⟨(scont27_any l p i c s w1 hS (by omega) (by omega)).mono fun e w2 ⟨he, hw⟩ => ⟨_, he, by rw [hw]; exact .refl _ _, ?_⟩⟩⟩
    subst hw
    have htk := take_snoc hs
    refine bsp_intro (fun hb => ?_) (fun hb => ?_)
    · have hb : s ∈ l.take i := (Lib.containsS_iff _ _).1 hb
      have hnn : ¬ l.Nodup := fun hn => by
        have h2 : (l.take (i + 1)).Nodup := hn.sublist (List.take_sublist _ _)
        rw [htk, List.nodup_append] at h2
        exact h2.2.2 s hb s (List.mem_singleton.2 rfl) rfl
      rw [if_pos hnn]
      exact ⟨⟨none, 0, by rw [List.zip_nil_right]; rfl, by rw [List.zip_nil_right]; exact RowA.nil, TyN.none⟩, m, h.same (.refl _ _)⟩
    · have hb : s ∉ l.take i := fun hm => by rw [(Lib.containsS_iff _ _).2 hm] at hb; cases hb
      rw [inc64 (by omega)]
      refine ⟨⟨i + 1, rfl, hlt, ?_, rfl⟩, by simp only [Int.toNat_natCast]; omega⟩
      rw [htk, List.nodup_append]
      exact ⟨hnd, by simp, fun a ha c hc e => by rw [List.mem_singleton.1 hc] at e; subst e; exact hb ha⟩
  have hi2 : i = l.length := by simp at hge; omega
  subst hi2
  rw [List.take_length] at hnd
  rw [if_neg (by simpa using hnd)]
  refine ⟨fun vs w' => ∃ i : Nat, vs = [.int .i64 (i : Int), .int .i64 0] ∧ i ≤ l.length ∧ asE A (l.take i) = 0 ∧ K0 w1 w', fun vs _ => (match vs with | .int _ a :: _ => l.length - a.toNat | _ => 0), ⟨0, rfl, by omega, rfl, .refl _ _⟩, ?_⟩
  rintro x x1 w2 ⟨i, hv, hi, hE, k2⟩
  simp only [List.cons.injEq, Value.int.injEq, true_and, and_true] at hv
  obtain ⟨rfl, rfl⟩ := hv
  refine bsp_intro (fun hlt => ?_) (fun hge => ?_)
  · have hlt : i < l.length := by simp at hlt; omega
    obtain ⟨s, sb, so, hs, hp, hc⟩ := (hS.k0 k2).get hlt
    have hsz := hz s (List.mem_of_getElem? hs)
    have htk := take_snoc hs
    have h2 := h.k0 k2
    have hsn := asE_snoc (A := A) (s := s) hE
    rw [← htk] at hsn
    have herr : ∀ er : Int, er ≠ 0 → asE A (l.take (i + 1)) = er → asE A l = er := fun er h1 h2 => by
      have := asE_app (A := A) (r := l.take (i + 1)) (q := l.drop (i + 1)) (by rw [h2]; exact h1)
      rw [List.take_append_drop, h2] at this
      exact this
    have fin : ∀ (er : Int) {w' : World}, er ≠ 0 → asE A (l.take (i + 1)) = er → K0 w1 w' → (∃ p' c', Ending.returned (Value.tuple #[.slice none 0 0, .int .i64 er]) = .returned (.tuple #[.slice p' (l.zip (if asE A l ≠ 0 then ((A, [], asE A l) : TA × List Int × Int) else (asS A l, asN A l, 0)).2.1).length c', .int .i64 (if asE A l ≠ 0 then ((A, [], asE A l) : TA × List Int × Int) else (asS A l, asN A l, 0)).2.2]) ∧ RowA plC 2 w' p' (l.zip (if asE A l ≠ 0 then ((A, [], asE A l) : TA × List Int × Int) else (asS A l, asN A l, 0)).2.1) ∧ TyN 64 w' p') ∧ ∃ m', Ts w1 w' B b mb m (if asE A l ≠ 0 then ((A, [], asE A l) : TA × List Int × Int) else (asS A l, asN A l, 0)).1 m' := fun er w' h1 h2 hk => by
      have he := herr er h1 h2
      rw [if_pos (by rw [he]; exact h1), he]
      exact ⟨⟨none, 0, by rw [List.zip_nil_right]; rfl, by rw [List.zip_nil_right]; exact RowA.nil, TyN.none⟩, m, h.same hk⟩
    rw [Int.toNat_natCast]
    cases hx : aget m s with
    | none =>
      rw [h.getN hx] at hsn
      refine nn_is hp ⟨⟨by omega, by omega⟩, s, hc, some mb, h2.z.cM, _, _, _, _, _, _, h2.z.look1 hsz, fun n1 => bsp_intro (fun _ W hW => ?_) (fun hb => by rw [hx] at hb; simp at hb)⟩
      exact fin 8 (by decide) hsn (k2.trans (hW.kk rfl))
    | some y =>
      rw [h.getS hx] at hsn
      simp only at hsn
      have hlk := h2.z.look1 hsz
      rw [hx] at hlk
      refine nn_is hp ⟨⟨by omega, by omega⟩, s, hc, some mb, h2.z.cM, _, _, _, _, _, _, hlk, fun n1 => bsp_intro (fun hb => by simp at hb) (fun _ => bsp_intro (fun hb W hW => ?_) (fun hb => bsp_intro (fun hc2 W hW => ?_) (fun hc2 W hW => ?_)))⟩
      · have hb : y.v.c = true := hb
        rw [if_pos hb] at hsn
        exact fin 10 (by decide) hsn (k2.trans (hW.kk rfl))
      · have hb : ¬ y.v.c = true := by simpa using hb
        have hc2 : 2147483646 ≤ y.v.h := by simpa using hc2
        rw [if_neg hb, if_pos hc2] at hsn
        exact fin 9 (by decide) hsn (k2.trans (hW.kk rfl))
      · have hb : ¬ y.v.c = true := by simpa using hb
        have hc2 : ¬ 2147483646 ≤ y.v.h := by simpa using hc2
        rw [if_neg hb, if_neg hc2] at hsn
        rw [inc64 (by omega)]
        exact ⟨⟨i + 1, rfl, hlt, hsn, k2.trans (hW.kk rfl)⟩, by simp only [Int.toNat_natCast]; omega⟩
  have hi2 : i = l.length := by simp at hge; omega
  subst hi2
  rw [List.take_length] at hE
  rw [if_neg (by rw [hE]; simp)]
  refine bsp_intro (fun hb => by simp at hb) (fun _ => ?_)
  refine ⟨fun vs w' => ∃ (i : Nat) (p' : Option Addr) (c' : Nat) (m' : TM), vs = [.int .i64 (i : Int), .slice p' i c'] ∧ i ≤ l.length ∧ w'.ownsRow w2.heap.size 64 2 (.slice p' i c') i (((l.take i).zip (asN A (l.take i))).flatMap plC) ∧ Ts w1 w' B b mb m (asS A (l.take i)) m' ∧ w2.heap.size ≤ w'.heap.size,
    fun vs _ => (match vs with | .int _ a :: _ => l.length - a.toNat | _ => 0), ⟨0, none, 0, m, rfl, by omega, World.ownsRow_nil _ _ _ _, h.same k2, Nat.le_refl _⟩, ?_⟩
  rintro x p1 n1 c1 w3 ⟨i, p', c', m', hv, hi, ho3, hT3, hs3⟩
  simp only [List.cons.injEq, Value.int.injEq, Value.slice.injEq, true_and, and_true] at hv
  obtain ⟨rfl, rfl, rfl, rfl⟩ := hv
  have hlen : ((l.take n1).zip (asN A (l.take n1))).length = n1 := by
    rw [List.length_zip, asN_len (hnd.sublist (List.take_sublist _ _)) (asE_take hE n1), List.length_take]; omega
  refine bsp_intro (fun hlt => ?_) (fun hge => ?_)
  · have hlt : n1 < l.length := by simp at hlt; omega
    obtain ⟨s, sb, so, hs, hp, hc⟩ := (hSk hT3.k (fun k c f hc => h.z.not_ty hc (by decide))).get hlt
    have hsz := hz s (List.mem_of_getElem? hs)
    have htk := take_snoc hs
    have hnd1 : (l.take n1).Nodup := hnd.sublist (List.take_sublist _ _)
    have hnd2 : (l.take (n1 + 1)).Nodup := hnd.sublist (List.take_sublist _ _)
    have hns : s ∉ l.take n1 := fun hm => by
      rw [htk, List.nodup_append] at hnd2
      exact hnd2.2.2 s hm s (List.mem_singleton.2 rfl) rfl
    obtain ⟨v, g1, g2, g3, _, _⟩ := asS_at hnd hE hs
    have hgv : aget (asS A (l.take n1)) s = some v := by rw [asS_get hns]; exact g1
    have hgm := hT3.t.get s
    rw [hgv] at hgm
    cases hy : aget m' s with
    | none => rw [hy] at hgm; cases hgm
    | some y =>
      rw [hy] at hgm
      have hyv : v = y.v := by cases hgm; rfl
      subst hyv
      obtain ⟨_, a1, a2, a3⟩ := h.wf.get g1
      have hlk : LookP Tryz.prog 97 (.map (some mb)) (.string s) false (gxV y) w3 := by
        have := hT3.t.z.look0 hsz
        rw [hy] at this
        exact this
      have e1 : IntKind.i64.wrap (y.v.h + 1) = y.v.h + 1 := wr64 (by omega) (by omega)
      have hyl := hT3.t.lenOf hy
      rw [Int.toNat_natCast]
      refine nn_is hp ⟨⟨by omega, by omega⟩, s, hc, some mb, hT3.t.z.cM, y.v.h, y.v.c, y.p, y.v.l.length, y.c, hlk, ?_⟩
      rw [e1]
      intro n2 W4 hW4
      have k4 : K0 w3 W4 := hW4.kk rfl
      have gn2 : w3.heap.size ≤ n2 := hW4.fresh 0 rfl rfl
      have cn2 := hW4.cells 0 rfl
      have hBW : B ≤ W4.heap.size := by
        have := (hT3.t.k0 k4).z.gb
        have := block_lt (hT3.t.k0 k4).z.st
        omega
      have hoy : y.own W4 B := (hT3.t.z.own s y hy (fun h => h)).kp k4 (fun _ _ h => h)
      refine ⟨(awith_any y.v.l y.p y.c (y.v.h + 1) W4 hoy hBW (by omega) (by omega)).mono fun e w5 ⟨p5, c5, he, ho5, k5, hf5⟩ => ⟨_, _, _, he, .of_kp k5 (fun k hk e => ?_), some mb, fun W6 hW6 => ?_, fun W6 hW6 => ?_⟩⟩
      · simp only [List.mem_cons, List.not_mem_nil, or_false] at hk
        subst hk
        exact own_not hoy cn2 rfl e
      · have st5 : w5.heap[b]? = _ := k5.blk (k4.blk hT3.t.z.st (fun h => h)) (fun e => (hT3.t.z.nm s y b hy e).2.1 rfl)
        exact cell_at (hW6.kp.blk st5 (fun ⟨z, hz, _, e2⟩ => by
          simp only [List.mem_cons, List.not_mem_nil, or_false] at hz
          subst hz
          have := block_lt hT3.t.z.st
          simp only at e2
          omega)) rfl
      · have hn2 : ∀ k, (∃ z ∈ [Blk.mk n2 94 [.int .i64 (y.v.h + 1), .bool y.v.c, .slice p5 (withI y.v.l (y.v.h + 1)).length c5] (wrM 0)], z.m = 1 ∧ z.n = k) → k = n2 := fun k ⟨z, hz, _, e2⟩ => by
          simp only [List.mem_cons, List.not_mem_nil, or_false] at hz
          subst hz
          exact e2.symm
        have k36 : Kp (fun k => y.blk = some k) w3 W6 := ((k4.mono fun _ _ e => e.elim).trans k5).fresh hW6.kp (fun j hj e => by have := hn2 j e; omega)
        have c52 := k5.blk cn2 (fun e => own_not hoy cn2 rfl e)
        have ho6 : Gx.own W6 B ⟨nxG y.v, p5, c5⟩ := owns_kp ho5 hW6.kp (fun k hk e => by
          have := hn2 k e
          subst this
          exact own_not ho5 c52 rfl hk)
        obtain ⟨w7, hu, hT7, k7⟩ := Ts.put (w := W6) hT3.t (x := ⟨nxG y.v, p5, c5⟩) hy k36 hsz ho6 (fun k (hk : (Value.slice p5 (withI y.v.l (y.v.h + 1)).length c5).ownBlock = some k) => by
          rcases hf5 k hk with e | e
          · exact .inl e
          · exact .inr (by have := k4.size; omega)) (hT3.t.wf.nx hgv g3)
        refine ⟨w7, hu, hT3.t.z.keptL k7 (fun k hk => by simp only [List.mem_cons, List.not_mem_nil, or_false] at hk; rw [hk]; exact gn2), fun n3 W8 hW8 => ?_⟩
        have k8 : K0 w7 W8 := hW8.kk rfl
        have ho7 := owns_kp ho3 hT7.k (fun k hk e => by
          obtain ⟨cc, hcc⟩ := own_type ho3 hk
          exact hT3.t.z.not_ty hcc (by decide) e)
        have ho8 := owns_kp ho7 k8 (fun _ _ h => h)
        have hs8 : w2.heap.size ≤ W8.heap.size := Nat.le_trans hs3 (Nat.le_trans hT7.k.size k8.size)
        refine ⟨_, _, ho8, by omega, by omega, hs8, fun p9 c9 w9 ho9 hg9 _ => ⟨.of_kp (kp_grown hg9) (fun k hk e => ?_), ⟨n1 + 1, p9, c9, aset m' s ⟨nxG y.v, p5, c5⟩, by rw [inc64 (by omega)], hlt, ?_, ?_, Nat.le_trans hs8 hg9.size⟩, by rw [inc64 (by omega)]; simp only [Int.toNat_natCast]; omega⟩⟩
        · simp only [List.mem_cons, List.not_mem_nil, or_false] at hk
          subst hk
          exact own_not ho8 (hW8.cells 1 rfl) rfl e
        · have ez : (l.take (n1 + 1)).zip (asN A (l.take (n1 + 1))) = (l.take n1).zip (asN A (l.take n1)) ++ [(s, y.v.h + 1)] := by
            rw [htk, asN_snoc hnd1 (asE_take hE n1) hgv, List.zip_append (by rw [asN_len hnd1 (asE_take hE n1)])]
            rfl
          rw [ez, List.flatMap_append]
          exact ho9
        · rw [htk, asS_snoc hnd1 (asE_take hE n1) hgv]
          refine ((hT3.trans hT7).k0 k8).kpf (kp_grown hg9) (fun k hk => ?_) (fun e => ?_) (fun k hk e => ?_)
          · have := own_ge ho8 hk; have := k2.size; omega
          · exact own_not ho8 ((hT7.t.k0 k8).z.st) rfl e
          · obtain ⟨cc, hcc⟩ := own_type ho8 e
            exact (hT7.t.k0 k8).z.not_ty hcc (by decide) hk
  · have hi2 : n1 = l.length := by simp at hge; omega
    subst hi2
    rw [List.take_length] at ho3 hT3 hlen
    have hr : RowA plC 2 w3 p1 (l.zip (asN A l)) := RowA.own ho3 plC_length (by decide)
    exact ⟨⟨p1, c1, by rw [hlen], hr, TyN.own ho3⟩, m', hT3⟩
end

end Go.Proofs.YtgmmoghagpmpfaaGreatDoor

/- Chapter 27: the contract of parseLine. Texts are not too long; the library's variable MaxLen holds a number. -/
namespace Go.Proofs.YtgmmoghagpmpfaaGreatDoor
open Go.RowKit Go.Maps Go.Sort

theorem yB (c : ByteArray) (d : UInt8) : (c.toList == [(ByteArray.mk #[d]).get! 0]) = decide (c = ⟨#[d]⟩) := by
  have : [(ByteArray.mk #[d]).get! 0] = (⟨#[d]⟩ : ByteArray).toList := by rw [ByteArray.toList_eq]; rfl
  rw [this, str_beq]
theorem emB (c : ByteArray) : (c.toList == []) = decide (c.size = 0) := by
  rw [ByteArray.toList_eq, Bool.eq_iff_iff]
  simp only [beq_iff_eq, decide_eq_true_eq]
  constructor
  · intro h
    have := congrArg List.length h
    simpa using this
  · intro h
    exact List.eq_nil_of_length_eq_zero (by simpa using h)
theorem size0_eq {c : ByteArray} (h : c.size = 0) : c = ⟨#[]⟩ := by
  apply ByteArray.ext
  exact Array.eq_empty_of_size_eq_zero h
theorem lineA_other {s bf : ByteArray} (h : (partsC 32 s).length < 3 ∨ 4 < (partsC 32 s).length) : lineA s bf = .inr 3 := by
  unfold lineA
  split
  · rename_i a b c hp; rw [hp] at h; simp at h
  · rename_i a b c d hp; rw [hp] at h; simp at h
  · rfl
theorem lineA_empty {s bf : ByteArray} (h : ⟨#[]⟩ ∈ partsC 32 s) : lineA s bf = .inr 3 := by
  unfold lineA
  split
  · rename_i a b c hp
    rw [hp] at h
    rw [if_pos]
    simp only [List.mem_cons, List.not_mem_nil, or_false] at h
    rcases h with h | h | h
    · exact .inl (by rw [← h]; rfl)
    · exact .inr (.inl (by rw [← h]; rfl))
    · exact .inr (.inr (by rw [← h]; rfl))
  · rename_i a b c d hp
    rw [hp] at h
    rw [if_pos]
    simp only [List.mem_cons, List.not_mem_nil, or_false] at h
    rcases h with h | h | h | h
    · exact .inl (by rw [← h]; rfl)
    · exact .inr (.inl (by rw [← h]; rfl))
    · exact .inr (.inr (.inl (by rw [← h]; rfl)))
    · exact .inr (.inr (.inr (by rw [← h]; rfl)))
  · rfl
/-- The words of a line, none of them empty. -/
theorem lineA_words {s bf : ByteArray} (h3 : ¬ (partsC 32 s).length < 3) (h4 : ¬ 4 < (partsC 32 s).length) (h : ⟨#[]⟩ ∉ partsC 32 s) : ∃ (a b c : ByteArray) (d : Option ByteArray), partsC 32 s = [a, b, c] ++ d.toList ∧ lineA s bf = lineW a b c d bf := by
  have hz : ∀ x ∈ partsC 32 s, x.size ≠ 0 := fun x hx e => h (by rw [← size0_eq e]; exact hx)
  unfold lineA
  split
  · rename_i a b c hp
    rw [hp] at hz
    refine ⟨a, b, c, none, by rw [hp]; rfl, ?_⟩
    rw [if_neg]
    rintro (e | e | e)
    · exact hz a (by simp) e
    · exact hz b (by simp) e
    · exact hz c (by simp) e
  · rename_i a b c d hp
    rw [hp] at hz
    refine ⟨a, b, c, some d, by rw [hp]; rfl, ?_⟩
    rw [if_neg]
    rintro (e | e | e | e)
    · exact hz a (by simp) e
    · exact hz b (by simp) e
    · exact hz c (by simp) e
    · exact hz d (by simp) e
  · rename_i hn1 hn2
    exfalso
    match hl : partsC 32 s, h3, h4 with
    | [], h3, _ => simp at h3
    | [_], h3, _ => simp at h3
    | [_, _], h3, _ => simp at h3
    | [a, b, c], _, _ => exact hn1 a b c hl
    | [a, b, c, d], _, _ => exact hn2 a b c d hl
    | _ :: _ :: _ :: _ :: _ :: _, _, h4 => simp at h4
/-- What parseLine answers. -/
def PLn (w : World) (s bf : ByteArray) (e : Ending) (w' : World) : Prop := (match lineA s bf with
  | .inl g => ∃ p c, e = .returned (.tuple #[.string g.1, .agg #[.int .i64 g.2.h, .bool g.2.c, .slice p g.2.l.length c], .int .i64 0]) ∧ w'.ownsRow w.heap.size 105 2 (.slice p g.2.l.length c) g.2.l.length (g.2.l.flatMap ivC)
  | .inr er => er ≠ 0 ∧ e = .returned (.tuple #[.string ⟨#[]⟩, .agg #[.int .i64 0, .bool false, .slice none 0 0], .int .i64 er])) ∧ K0 w w'
set_option maxHeartbeats 4000000 in
theorem acpline_any (s bf : ByteArray) (w : World) (hs : s.size ≤ 1048576) (hb : bf.size ≤ 1048576) (hG : GW w) :
    Calls Tryz.prog 43 #[.string s, .string bf] w (PLn w s bf) := by
  refine vc_acpline s bf w _ (fun n W hW => ?_)
  have kW : K0 w W := hW.kk rfl
  have gn : w.heap.size ≤ n := hW.fresh 0 rfl rfl
  have cn := hW.cells 0 rfl
  have fail : ∀ {er : Int} {w' : World}, K0 w w' → lineA s bf = .inr er → er ≠ 0 → PLn w s bf (.returned (.tuple #[.string ⟨#[]⟩, .agg #[.int .i64 0, .bool false, .slice none 0 0], .int .i64 er])) w' := fun k e h => by
    unfold PLn; rw [e]; exact ⟨⟨h, rfl⟩, k⟩
  have kk : ∀ {t : TypeId} {cs : List Value} {mm : Nat} {w1 W1 : World}, K0 w w1 → Loc w.heap.size [Blk.mk n t cs mm] w1 W1 → K0 w W1 := fun k hW1 => hW1.k0 k
  refine ⟨(split27_any 32 s W (by omega) (gk0 hG kW)).mono fun e w1 ⟨⟨p, he, hS⟩, k1⟩ => ⟨_, _, _, he, .of_k0 k1, ?_⟩⟩
  have hps := parts_size 32 s
  have hpl := parts_len 32 s
  have k01 := kW.trans k1
  refine bsp_intro (fun h0 => ?_) (fun h0 => ⟨.refl _ _, fun W2 hW2 => fail (kk k01 hW2) (lineA_other (by simp at h0; omega)) (by decide)⟩)
  have h3 : ¬ (partsC 32 s).length < 3 := by simp at h0; omega
  have h4 : ¬ 4 < (partsC 32 s).length := by simp at h0; omega
  have hco := scont27_any (partsC 32 s) p (partsC 32 s).length (partsC 32 s).length ⟨#[]⟩ w1 hS (Nat.le_refl _) (by omega)
  rw [List.take_length] at hco
  refine ⟨hco.mono fun e w2 ⟨he, hw⟩ => ⟨_, he, by rw [hw]; exact .refl _ _, ?_⟩⟩
  subst hw
  refine bsp_intro (fun hx W2 hW2 => ?_) (fun hx => ?_)
  · have hx : ⟨#[]⟩ ∈ partsC 32 s := (Lib.containsS_iff _ _).1 (by simpa using hx)
    exact fail (kk k01 hW2) (lineA_empty hx) (by decide)
  have hx : ⟨#[]⟩ ∉ partsC 32 s := fun hm => by rw [(Lib.containsS_iff _ _).2 hm] at hx; simp at hx
  obtain ⟨a, b, c, d, hp, hlin⟩ := lineA_words (bf := bf) h3 h4 hx
  rw [hp] at hS hps ⊢
  have ha : a.size ≤ 1048576 := by have := hps a (by simp); omega
  have hbz : b.size ≤ 1048576 := by have := hps b (by simp); omega
  have hlen : ([a, b, c] ++ d.toList).length = 3 + d.toList.length := by simp; omega
  obtain ⟨x0, pb, po, hx0, hpp, hc0⟩ := hS.get (k := 0) (by simp)
  have e0 : x0 = a := by simp at hx0; exact hx0.symm
  subst e0
  have cell : ∀ {wx : World} {j : Nat} {z : ByteArray}, K0 w2 wx → ([x0, b, c] ++ d.toList)[j]? = some z → wx.cell? ⟨pb, po + j, none⟩ = some (.string z) := fun k hj => by
    obtain ⟨z', pb', po', hz', hp', hc'⟩ := hS.get (List.getElem?_eq_some_iff.1 hj).1
    rw [hj] at hz'
    cases hz'
    rw [hpp] at hp'
    cases hp'
    exact k.cell' hc' (fun h => h)
  refine nn_is hpp ⟨⟨by omega, by rw [hlen]; omega⟩, x0, by simpa using hc0, ⟨(gcheck_any x0 w2 (gk0 hG k01)).mono fun e w3 ⟨he, k3⟩ => ⟨_, he, .of_k0 k3, bsp_intro (fun hg W2 hW2 => ?_) (fun hg => ?_)⟩⟩⟩
  · have hg : gnE x0 ≠ 0 := by simpa using hg
    exact fail (kk (k01.trans k3) hW2) (by rw [hlin]; unfold lineW; rw [if_pos hg]) hg
  have hg : gnE x0 = 0 := by simpa using hg
  have k03 := k01.trans k3
  have kw3 : K0 w2 w3 := k3
  have hxs := name_size hg
  have hord : (bf.size ≠ 0 ∧ 0 ≤ gnC bf x0) ∨ ¬ (bf.size ≠ 0 ∧ 0 ≤ gnC bf x0) := Classical.em _
  rw [emB]
  refine bsp_intro (fun ht => ⟨(gncmp1_any bf x0 w3 (by omega) (by omega) (gk0 hG k03)).mono fun e wx ⟨he, kx', _⟩ => ⟨_, he, .of_k0 kx', bsp_intro (fun h30 W2 hW2 => ?_) (fun h30 => ?_)⟩⟩) (fun ht => ⟨.refl _ _, ?_⟩)
  · have ht : bf.size ≠ 0 := by simpa using ht
    have h30 : 0 ≤ gnC bf x0 := by simpa using h30
    exact fail (kk (k03.trans kx') hW2) (by rw [hlin]; unfold lineW; rw [if_neg (by simpa using hg), if_pos ⟨ht, h30⟩]) (by decide)
  rotate_left
  · obtain ⟨wx, hwx⟩ : ∃ wx, wx = w3 := ⟨_, rfl⟩
    have hno : ¬ (bf.size ≠ 0 ∧ 0 ≤ gnC bf x0) := fun ⟨h1, _⟩ => h1 (by simpa using ht)
    have kx : K0 w wx := by rw [hwx]; exact k03
    have kx2 : K0 w2 wx := by rw [hwx]; exact kw3
    rw [← hwx]
    clear hwx
    refine nn_is hpp ⟨⟨by omega, by rw [hlen]; omega⟩, b, cell kx2 rfl, ⟨(anum_any b 2147483646 wx (by omega) (by omega)).mono fun e w5 ⟨he, k5⟩ => ⟨_, _, he, .of_k0 k5, bsp_intro (fun h2 W2 hW2 => ?_) (fun h2 => ?_)⟩⟩⟩
    · have h2 : (numR b 2147483646).2 ≠ 0 := by simpa using h2
      exact fail (kk (kx.trans k5) hW2) (by rw [hlin]; unfold lineW; rw [if_neg (by simpa using hg), if_neg hno, if_pos h2]) (by decide)
    have h2 : (numR b 2147483646).2 = 0 := by simpa using h2
    have k05 := kx.trans k5
    have k25 := kx2.trans k5
    refine nn_is hpp ⟨⟨by omega, by rw [hlen]; omega⟩, c, cell k25 rfl, nn_is hpp ⟨gimp_intro fun _ => ⟨by omega, by rw [hlen]; omega⟩, c, gimp_intro fun _ => cell k25 rfl, bsp_intro (fun h3 W2 hW2 => ?_) (fun h3 => ?_)⟩⟩
    · rw [yB, yB] at h3
      have h3 : c ≠ ⟨#[121]⟩ ∧ c ≠ ⟨#[110]⟩ := by simpa using h3
      exact fail (kk k05 hW2) (by rw [hlin]; unfold lineW; rw [if_neg (by simpa using hg), if_neg hno, if_neg (by simpa using h2), if_pos h3]) (by decide)
    have h3 : ¬ (c ≠ ⟨#[121]⟩ ∧ c ≠ ⟨#[110]⟩) := fun ⟨a1, a2⟩ => by
      rw [yB, yB, decide_eq_false a1, decide_eq_false a2] at h3
      cases h3
    obtain ⟨_, u1, u2, _⟩ := numR_ok h2
    refine nn_is hpp ⟨⟨by omega, by rw [hlen]; omega⟩, c, cell k25 rfl, ?_⟩
    rw [yB]
    intro n2
    cases d with
    | none =>
      refine bsp_intro (fun h => by simp at h) (fun _ W2 hW2 => ?_)
      have hl : lineA s bf = .inl (x0, ⟨(numR b 2147483646).1, decide (c = ⟨#[110]⟩), []⟩) := by
        rw [hlin]; unfold lineW
        rw [if_neg (by simpa using hg), if_neg hno, if_neg (by simpa using h2), if_neg h3]
      unfold PLn
      rw [hl]
      exact ⟨⟨none, 0, rfl, World.ownsRow_nil _ _ _ _⟩, hW2.k0 k05⟩
    | some d =>
      have hdz : d.size ≤ 1048576 := by have := hps d (by simp); omega
      refine bsp_intro (fun _ => nn_is hpp ⟨⟨by omega, by rw [hlen]; simp⟩, d, fun W2 hW2 => cell (k25.trans (hW2.kk rfl)) rfl, fun W2 hW2 => ?_⟩) (fun h => by simp at h)
      have k2W : K0 w W2 := hW2.k0 k05
      have l1 := block_lt (hW2.cells 0 rfl)
      have l2 := block_lt (hW2.cells 1 rfl)
      simp only at l1 l2
      refine ⟨(acpranges_any d (numR b 2147483646).1 W2 hdz ⟨u1, u2⟩ (gk0 hG k2W)).mono fun e w6 ⟨hm, k6⟩ => ?_⟩
      cases hiv : ivL (numR b 2147483646).1 (partsC 44 d) 1 with
      | none =>
        rw [hiv] at hm
        refine ⟨none, 0, 0, false, hm, .of_k0 k6, bsp_intro (fun _ W3 hW3 => fail (hW3.k0 (k2W.trans k6)) ?_ (by decide)) (fun h => by cases h)⟩
        rw [hlin]; unfold lineW
        rw [if_neg (by simpa using hg), if_neg hno, if_neg (by simpa using h2), if_neg h3]
        simp only
        rw [hiv]
      | some l =>
        rw [hiv] at hm
        obtain ⟨q, cc, he, ho⟩ := hm
        refine ⟨q, l.length, cc, true, he, .of_k0 k6, bsp_intro (fun h => by cases h) (fun _ W3 hW3 => ?_)⟩
        have hl : lineA s bf = .inl (x0, ⟨(numR b 2147483646).1, decide (c = ⟨#[110]⟩), l⟩) := by
          rw [hlin]; unfold lineW
          rw [if_neg (by simpa using hg), if_neg hno, if_neg (by simpa using h2), if_neg h3]
          simp only
          rw [hiv]
        have ho3 := owns_kp ho hW3.kp (fun k hk ⟨z, hz, _, e2⟩ => by
          have := own_ge ho hk
          simp only [List.mem_cons, List.not_mem_nil, or_false] at hz
          rcases hz with rfl | rfl
          · simp only at e2; omega
          · simp only at e2; omega)
        unfold PLn
        rw [hl]
        exact ⟨⟨q, cc, rfl, own_base ho3 k2W.size⟩, hW3.k0 (k2W.trans k6)⟩
  · have hno : ¬ (bf.size ≠ 0 ∧ 0 ≤ gnC bf x0) := fun ⟨_, h1⟩ => by simp at h30; omega
    have kx : K0 w wx := k03.trans kx'
    have kx2 : K0 w2 wx := kw3.trans kx'
    refine nn_is hpp ⟨⟨by omega, by rw [hlen]; omega⟩, b, cell kx2 rfl, ⟨(anum_any b 2147483646 wx (by omega) (by omega)).mono fun e w5 ⟨he, k5⟩ => ⟨_, _, he, .of_k0 k5, bsp_intro (fun h2 W2 hW2 => ?_) (fun h2 => ?_)⟩⟩⟩
    · have h2 : (numR b 2147483646).2 ≠ 0 := by simpa using h2
      exact fail (kk (kx.trans k5) hW2) (by rw [hlin]; unfold lineW; rw [if_neg (by simpa using hg), if_neg hno, if_pos h2]) (by decide)
    have h2 : (numR b 2147483646).2 = 0 := by simpa using h2
    have k05 := kx.trans k5
    have k25 := kx2.trans k5
    refine nn_is hpp ⟨⟨by omega, by rw [hlen]; omega⟩, c, cell k25 rfl, nn_is hpp ⟨gimp_intro fun _ => ⟨by omega, by rw [hlen]; omega⟩, c, gimp_intro fun _ => cell k25 rfl, bsp_intro (fun h3 W2 hW2 => ?_) (fun h3 => ?_)⟩⟩
    · rw [yB, yB] at h3
      have h3 : c ≠ ⟨#[121]⟩ ∧ c ≠ ⟨#[110]⟩ := by simpa using h3
      exact fail (kk k05 hW2) (by rw [hlin]; unfold lineW; rw [if_neg (by simpa using hg), if_neg hno, if_neg (by simpa using h2), if_pos h3]) (by decide)
    have h3 : ¬ (c ≠ ⟨#[121]⟩ ∧ c ≠ ⟨#[110]⟩) := fun ⟨a1, a2⟩ => by
      rw [yB, yB, decide_eq_false a1, decide_eq_false a2] at h3
      cases h3
    obtain ⟨_, u1, u2, _⟩ := numR_ok h2
    refine nn_is hpp ⟨⟨by omega, by rw [hlen]; omega⟩, c, cell k25 rfl, ?_⟩
    rw [yB]
    intro n2
    cases d with
    | none =>
      refine bsp_intro (fun h => by simp at h) (fun _ W2 hW2 => ?_)
      have hl : lineA s bf = .inl (x0, ⟨(numR b 2147483646).1, decide (c = ⟨#[110]⟩), []⟩) := by
        rw [hlin]; unfold lineW
        rw [if_neg (by simpa using hg), if_neg hno, if_neg (by simpa using h2), if_neg h3]
      unfold PLn
      rw [hl]
      exact ⟨⟨none, 0, rfl, World.ownsRow_nil _ _ _ _⟩, hW2.k0 k05⟩
    | some d =>
      have hdz : d.size ≤ 1048576 := by have := hps d (by simp); omega
      refine bsp_intro (fun _ => nn_is hpp ⟨⟨by omega, by rw [hlen]; simp⟩, d, fun W2 hW2 => cell (k25.trans (hW2.kk rfl)) rfl, fun W2 hW2 => ?_⟩) (fun h => by simp at h)
      have k2W : K0 w W2 := hW2.k0 k05
      have l1 := block_lt (hW2.cells 0 rfl)
      have l2 := block_lt (hW2.cells 1 rfl)
      simp only at l1 l2
      refine ⟨(acpranges_any d (numR b 2147483646).1 W2 hdz ⟨u1, u2⟩ (gk0 hG k2W)).mono fun e w6 ⟨hm, k6⟩ => ?_⟩
      cases hiv : ivL (numR b 2147483646).1 (partsC 44 d) 1 with
      | none =>
        rw [hiv] at hm
        refine ⟨none, 0, 0, false, hm, .of_k0 k6, bsp_intro (fun _ W3 hW3 => fail (hW3.k0 (k2W.trans k6)) ?_ (by decide)) (fun h => by cases h)⟩
        rw [hlin]; unfold lineW
        rw [if_neg (by simpa using hg), if_neg hno, if_neg (by simpa using h2), if_neg h3]
        simp only
        rw [hiv]
      | some l =>
        rw [hiv] at hm
        obtain ⟨q, cc, he, ho⟩ := hm
        refine ⟨q, l.length, cc, true, he, .of_k0 k6, bsp_intro (fun h => by cases h) (fun _ W3 hW3 => ?_)⟩
        have hl : lineA s bf = .inl (x0, ⟨(numR b 2147483646).1, decide (c = ⟨#[110]⟩), l⟩) := by
          rw [hlin]; unfold lineW
          rw [if_neg (by simpa using hg), if_neg hno, if_neg (by simpa using h2), if_neg h3]
          simp only
          rw [hiv]
        have ho3 := owns_kp ho hW3.kp (fun k hk ⟨z, hz, _, e2⟩ => by
          have := own_ge ho hk
          simp only [List.mem_cons, List.not_mem_nil, or_false] at hz
          rcases hz with rfl | rfl
          · simp only at e2; omega
          · simp only at e2; omega)
        unfold PLn
        rw [hl]
        exact ⟨⟨q, cc, rfl, own_base ho3 k2W.size⟩, hW3.k0 (k2W.trans k6)⟩

end Go.Proofs.YtgmmoghagpmpfaaGreatDoor
