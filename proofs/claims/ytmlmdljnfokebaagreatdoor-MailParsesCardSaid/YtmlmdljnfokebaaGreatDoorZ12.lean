/- Chapter 49: the contracts of the statements' conversions To and Of. Lists have at most 2^40 strings. -/
import Derived.Test.YtmlmdljnfokebaaGreatDoorZ06
import Derived.Test.YtmlmdljnfokebaaGreatDoorZ09
import Derived.WalkKit
import Derived.Laws.IdiomStrings
import Derived.Deep.RegionWith
import Derived.Shelf.RegionOpenPlain
import Derived.Handy
import Derived.Test.YtmlmdljnfokebaaGreatDoorProg
import Derived.Test.YtmlmdljnfokebaaGreatDoorZ02
import Derived.Test.YtmlmdljnfokebaaGreatDoorZ04
import Derived.KernelRfl
import Derived.Test.YtmlmdljnfokebaaGreatDoorZ11
import Derived.Test.YtmlmdljnfokebaaGreatDoorZ10
import Derived.Lib.IndexMore
namespace Go.Proofs.YtmlmdljnfokebaaGreatDoor
open Go.RowKit

set_option maxHeartbeats 1000000 in
theorem of_any (m : Ml) (p : Option Addr) (c : Nat) (w : World) (hR : StrP w p m.hops) (hhl : m.hops.length ≤ 1099511627776) :
    Calls Tryz.prog 11 #[mxA m p c] w fun e w' => (∃ (q : Option Addr) (d : Nat), e = .returned (mxA m q d) ∧ w'.ownsRow w.heap.size 9 1 (.slice q m.hops.length d) m.hops.length (m.hops.map .string)) ∧ K0 w w' := by
  refine vc_lof m.fu m.fs m.tu m.ts m.n m.d m.sj p m.hops.length c m.bd w _ (fun n1 n2 n3 W hW => ?_)
  have k0s : K0 w W := hW.kk rfl
  have hb3 : W.heap[n3]? = some (.cells #[.string m.fu, .string m.fs, .string m.tu, .string m.ts, .int .i64 m.n, .int .i64 m.d, .string m.sj, .slice none 0 0, .string m.bd] 32 (0, 0)) := hW.cells 0 rfl
  have g3 : w.heap.size ≤ n3 := hW.fresh 0 rfl rfl
  have hA : n3 ≠ n1 := hW.apart 0 2 rfl rfl (by decide)
  have hA2 : n3 ≠ n2 := hW.apart 0 1 rfl rfl (by decide)
  obtain ⟨B, hB, b1, b2, b3⟩ : ∃ B, B ≤ W.heap.size ∧ n1 < B ∧ n2 < B ∧ n3 < B := by
    have h1 := block_lt (hW.cells 2 rfl)
    have h2 := block_lt (hW.cells 1 rfl)
    have h3 := block_lt hb3
    exact ⟨W.heap.size, Nat.le_refl _, h1, h2, h3⟩
  refine ⟨fun vs w' => ∃ (i : Nat) (q : Option Addr) (d : Nat), vs = [.int .i64 (i : Int)] ∧ i ≤ m.hops.length ∧ w'.heap[n3]? = some (.cells #[.string m.fu, .string m.fs, .string m.tu, .string m.ts, .int .i64 m.n, .int .i64 m.d, .string m.sj, .slice q i d, .string m.bd] 32 (0, 0)) ∧ w'.ownsRow B 9 1 (.slice q i d) i ((m.hops.take i).map .string) ∧ K0 w w' ∧ B ≤ w'.heap.size,
    fun vs _ => (match vs with | .int _ x :: _ => m.hops.length - x.toNat | _ => 0), ⟨0, none, 0, rfl, by omega, hb3, World.ownsRow_nil _ _ _ _, k0s, hB⟩, ?_⟩
  rintro x w4 ⟨i, q, d, hv, hi, hb4, ho4, k4, hn4⟩ hL4
  simp only [List.cons.injEq, Value.int.injEq, true_and, and_true] at hv
  subst hv
  refine bsp_intro (fun hlt => ?_) (fun hge => ?_)
  · have hlt : i < m.hops.length := by simp at hlt; omega
    intro W5 hW5
    have k5 : K0 w4 W5 := hW5.kk rfl
    have hc1 : W5.heap[n1]? = some (.cells #[.string m.fu, .string m.fs, .string m.tu, .string m.ts, .int .i64 m.n, .int .i64 m.d, .string m.sj, .slice p m.hops.length c, .string m.bd] 26 (0, 0)) := hW5.cells 1 rfl
    have hb5 := k5.blk hb4 (fun h => h)
    obtain ⟨z, bz, oz, hz, hp, hcz⟩ := str_get (hR.k0 (k4.trans k5)) hlt
    refine ⟨fun wx => K0 W5 wx, .refl _ _, q, i, d, fun wx k => cell_at (k.blk hb5 (fun h => h)) rfl, p, m.hops.length, c, fun wx k => cell_at (k.blk hc1 (fun h => h)) rfl, nn_is hp ⟨⟨by omega, by omega⟩, z, fun wx k => by rw [Int.toNat_natCast]; exact k.cell' hcz (fun h => h), fun n5 w6 hn6 => ⟨hn6.kp _, ?_⟩⟩⟩
    have ho5 := owns_kp ho4 k5 (fun _ _ h => h)
    refine app1 ho5 (Nat.le_trans hn4 k5.size) hn6 rfl (by intro u hu; simp at hu; subst hu; rfl) (by omega) (by omega) (fun q' d' w7 ho7 hk7 hs7 => ?_)
    have k7 : Kp (fun k => B ≤ k) W5 w7 := hk7.mono fun k _ e => own_ge ho5 e
    have hb7 := k7.blk hb5 (by omega)
    refine ⟨cell_wr hb7 (by show 7 < 9; omega), fun w8 hp8 => ?_⟩
    have hb8 : w8.heap[n3]? = some (.cells #[.string m.fu, .string m.fs, .string m.tu, .string m.ts, .int .i64 m.n, .int .i64 m.d, .string m.sj, .slice q' (i + 1) d', .string m.bd] 32 (0, 0)) := by rw [hp8.block hb7]; rfl
    have k8 : Kp (fun k => k = n3 ∨ B ≤ k) W5 w8 := (k7.mono fun k _ e => .inr e).trans (hp8.kp.mono fun k _ e => .inl e)
    have k08 : K0 w w8 := (k4.trans k5).fresh k8 (fun j hj e => by omega)
    refine ⟨⟨by rw [hp8.size]; have := (hn6.kp (fun _ => False)).size; omega, fun y hy hlt' => k8.block y hlt' (fun e => by simp at hy; rcases hy with rfl | rfl; omega; omega)⟩, ⟨i + 1, q', d', by rw [inc64 (by omega)], by omega, hb8, ?_, k08, by rw [hp8.size]; have := k7.size; have := k5.size; omega⟩, by rw [inc64 (by omega)]; simp only [Int.toNat_natCast]; omega⟩
    rw [take_snoc hz, List.map_append]
    refine owns_kp ho7 hp8.kp (fun k hk e => ?_)
    have := own_ge ho7 hk
    have e : k = n3 := e
    omega
  · have hge : i = m.hops.length := by simp at hge; omega
    subst hge
    have hlen : (m.hops.take (m.hops.length)).length = m.hops.length := by rw [List.length_take]; omega
    refine ⟨_, _, _, _, _, _, _, _, _, _, _, AtL_block hb4 rfl, fun W5 hW5 => ⟨⟨q, d, ?_, ?_⟩, hW5.k0 k4⟩⟩
    · rfl
    · rw [List.take_length] at ho4
      refine owns_kp (own_base ho4 (by omega)) hW5.kp (fun k hk ⟨x, hx, h3, h4⟩ => ?_)
      have h1 := own_ge ho4 hk
      simp only [List.mem_cons, List.not_mem_nil, or_false] at hx
      rcases hx with rfl | rfl
      · have e : n2 = k := by first | exact h4 | exact h4.symm | exact h3 | exact h3.symm | exact h4.1 | exact h4.1.symm
        omega
      · have e : n1 = k := by first | exact h4 | exact h4.symm | exact h3 | exact h3.symm | exact h4.1 | exact h4.1.symm
        omega

def toM (m : Ml) : Ml := ⟨m.fu, m.fs, m.tu, m.ts, m.n, m.d, m.sj, m.hops.take 20, m.bd.extract 0 (min m.bd.size 33000)⟩
set_option maxHeartbeats 1000000 in
theorem to_any (m : Ml) (p : Option Addr) (c : Nat) (w : World) (hR : StrP w p m.hops) (hhl : m.hops.length ≤ 4611686018427387904) :
    Calls Tryz.prog 14 #[mxA m p c] w fun e w' => (∃ (q : Option Addr) (d : Nat), e = .returned (mxA (toM m) q d) ∧ w'.ownsRow w.heap.size 9 1 (.slice q (toM m).hops.length d) (toM m).hops.length ((toM m).hops.map .string)) ∧ K0 w w' := by
  refine vc_lto m.fu m.fs m.tu m.ts m.n m.d m.sj p m.hops.length c m.bd w _ (fun n1 n2 W hW => ?_)
  have kW : K0 w W := hW.kk rfl
  have hcW : W.heap[n1]? = some (.cells #[.string m.fu, .string m.fs, .string m.tu, .string m.ts, .int .i64 m.n, .int .i64 m.d, .string m.sj, .slice p m.hops.length c, .string m.bd] 32 (0, 0)) := hW.cells 1 rfl
  have hn1 := block_lt hcW
  have hn2 := block_lt (hW.cells 0 rfl)
  simp only at hn2
  have ck : ∀ (i : Nat) (v : Value), (#[.string m.fu, .string m.fs, .string m.tu, .string m.ts, .int .i64 m.n, .int .i64 m.d, .string m.sj, .slice p m.hops.length c, .string m.bd] : Array Value)[i]? = some v → ∀ wx, K0 W wx → wx.cell? ⟨n1, i, none⟩ = some v := fun i v h wx k => cell_at (k.blk hcW (fun h => h)) h
  have hbk : ∃ bk : Nat, (if 33000 < (m.bd.size : Int) then (33000 : Int) else (m.bd.size : Int)) = bk ∧ bk = min m.bd.size 33000 := by
    split
    · exact ⟨33000, rfl, by omega⟩
    · exact ⟨m.bd.size, rfl, by omega⟩
  obtain ⟨bk, ebk, hbk⟩ := hbk
  refine ⟨fun wx => K0 W wx, .refl _ _, m.fu, ck 0 _ rfl, m.fs, ck 1 _ rfl, m.tu, ck 2 _ rfl, m.ts, ck 3 _ rfl, m.n, ck 4 _ rfl, m.d, ck 5 _ rfl, m.sj, ck 6 _ rfl, m.bd, ck 8 _ rfl, m.bd, ck 8 _ rfl, ?_⟩
  rw [ebk, Int.toNat_natCast]
  refine ⟨⟨by omega, by omega⟩, fun n3 w2 hn3 => ⟨hn3.kp _, WrL_block hn3.block (Nat.le_refl 9), fun w3 hp3 => ?_⟩⟩
  have g30 : W.heap.size ≤ n3 := hn3.ge
  have hb3 : w3.heap[n3]? = some (.cells #[.string m.fu, .string m.fs, .string m.tu, .string m.ts, .int .i64 m.n, .int .i64 m.d, .string m.sj, .slice none 0 0, .string (m.bd.extract 0 bk)] 26 (0, 0)) := hp3.full hn3.block rfl
  have kW3 : K0 W w3 := put_k0 (hn3.kp _) hp3 g30
  have k0s : K0 w w3 := kW.trans kW3
  have g3 : w.heap.size ≤ n3 := Nat.le_trans kW.size g30
  have hA : n3 ≠ n1 := by omega
  have hA2 : n3 ≠ n2 := by omega
  obtain ⟨B, hB, b1, b2, b3⟩ : ∃ B, B ≤ w3.heap.size ∧ n1 < B ∧ n2 < B ∧ n3 < B := ⟨n3 + 1, block_lt hb3, by omega, by omega, by omega⟩
  refine ⟨.of_k0 kW3, ?_⟩
  refine ⟨fun vs w' => ∃ (i : Nat) (q : Option Addr) (d : Nat), vs = [.int .i64 (i : Int)] ∧ i ≤ m.hops.length ∧ i ≤ 20 ∧ w'.heap[n3]? = some (.cells #[.string m.fu, .string m.fs, .string m.tu, .string m.ts, .int .i64 m.n, .int .i64 m.d, .string m.sj, .slice q i d, .string (m.bd.extract 0 bk)] 26 (0, 0)) ∧ w'.ownsRow B 9 1 (.slice q i d) i ((m.hops.take i).map .string) ∧ K0 w w' ∧ B ≤ w'.heap.size,
    fun vs _ => (match vs with | .int _ x :: _ => m.hops.length - x.toNat | _ => 0), ⟨0, none, 0, rfl, by omega, by omega, hb3, World.ownsRow_nil _ _ _ _, k0s, hB⟩, ?_⟩
  rintro x w4 ⟨i, q, d, hv, hi, hi20, hb4, ho4, k4, hn4⟩ hL4
  simp only [List.cons.injEq, Value.int.injEq, true_and, and_true] at hv
  subst hv
  refine bsp_intro (fun hlt => ?_) (fun hge => ?_)
  · have hlt : i < m.hops.length ∧ i < 20 := by simp at hlt; omega
    intro W5 hW5
    have k5 : K0 w4 W5 := hW5.kk rfl
    have hc1 : W5.heap[n1]? = some (.cells #[.string m.fu, .string m.fs, .string m.tu, .string m.ts, .int .i64 m.n, .int .i64 m.d, .string m.sj, .slice p m.hops.length c, .string m.bd] 32 (0, 0)) := hW5.cells 1 rfl
    have hb5 := k5.blk hb4 (fun h => h)
    obtain ⟨z, bz, oz, hz, hp, hcz⟩ := str_get (hR.k0 (k4.trans k5)) hlt.1
    refine ⟨fun wx => K0 W5 wx, .refl _ _, q, i, d, fun wx k => cell_at (k.blk hb5 (fun h => h)) rfl, p, m.hops.length, c, fun wx k => cell_at (k.blk hc1 (fun h => h)) rfl, nn_is hp ⟨⟨by omega, by omega⟩, z, fun wx k => by rw [Int.toNat_natCast]; exact k.cell' hcz (fun h => h), fun n5 w6 hn6 => ⟨hn6.kp _, ?_⟩⟩⟩
    have ho5 := owns_kp ho4 k5 (fun _ _ h => h)
    refine app1 ho5 (Nat.le_trans hn4 k5.size) hn6 rfl (by intro u hu; simp at hu; subst hu; rfl) (by omega) (by omega) (fun q' d' w7 ho7 hk7 hs7 => ?_)
    have k7 : Kp (fun k => B ≤ k) W5 w7 := hk7.mono fun k _ e => own_ge ho5 e
    have hb7 := k7.blk hb5 (by omega)
    refine ⟨cell_wr hb7 (by show 7 < 9; omega), fun w8 hp8 => ?_⟩
    have hb8 : w8.heap[n3]? = some (.cells #[.string m.fu, .string m.fs, .string m.tu, .string m.ts, .int .i64 m.n, .int .i64 m.d, .string m.sj, .slice q' (i + 1) d', .string (m.bd.extract 0 bk)] 26 (0, 0)) := by rw [hp8.block hb7]; rfl
    have k8 : Kp (fun k => k = n3 ∨ B ≤ k) W5 w8 := (k7.mono fun k _ e => .inr e).trans (hp8.kp.mono fun k _ e => .inl e)
    have k08 : K0 w w8 := (k4.trans k5).fresh k8 (fun j hj e => by omega)
    refine ⟨⟨by rw [hp8.size]; have := (hn6.kp (fun _ => False)).size; omega, fun y hy hlt' => k8.block y hlt' (fun e => by simp at hy; rcases hy with rfl | rfl; omega; omega)⟩, ⟨i + 1, q', d', by rw [inc64 (by omega)], by omega, by omega, hb8, ?_, k08, by rw [hp8.size]; have := k7.size; have := k5.size; omega⟩, by rw [inc64 (by omega)]; simp only [Int.toNat_natCast]; omega⟩
    rw [take_snoc hz, List.map_append]
    refine owns_kp ho7 hp8.kp (fun k hk e => ?_)
    have := own_ge ho7 hk
    have e : k = n3 := e
    omega
  · have hge : i = min m.hops.length 20 := by simp at hge; omega
    subst hge
    have hlen : (m.hops.take (min m.hops.length 20)).length = min m.hops.length 20 := by rw [List.length_take]; omega
    refine ⟨_, _, _, _, _, _, _, _, _, _, _, AtL_block hb4 rfl, fun W5 hW5 => ⟨⟨q, d, ?_, ?_⟩, hW5.k0 k4⟩⟩
    · have e1 : m.hops.take 20 = m.hops.take (min m.hops.length 20) := by
        by_cases h : m.hops.length ≤ 20
        · rw [Nat.min_eq_left h, List.take_length, List.take_of_length_le h]
        · rw [Nat.min_eq_right (by omega)]
      unfold toM
      rw [← hbk, e1]
      show Ending.returned (Value.agg _) = .returned (.agg _)
      simp only [hlen]
    · have e1 : m.hops.take 20 = m.hops.take (min m.hops.length 20) := by
        by_cases h : m.hops.length ≤ 20
        · rw [Nat.min_eq_left h, List.take_length, List.take_of_length_le h]
        · rw [Nat.min_eq_right (by omega)]
      show W5.ownsRow _ _ _ (.slice q (m.hops.take 20).length d) (m.hops.take 20).length ((m.hops.take 20).map .string)
      rw [e1, hlen]
      refine owns_kp (own_base ho4 (by omega)) hW5.kp (fun k hk ⟨x, hx, h3, h4⟩ => ?_)
      have h1 := own_ge ho4 hk
      simp only [List.mem_cons, List.not_mem_nil, or_false] at hx
      rcases hx with rfl | rfl
      · have e : n2 = k := by first | exact h4 | exact h4.symm | exact h3 | exact h3.symm | exact h4.1 | exact h4.1.symm
        omega
      · have e : n1 = k := by first | exact h4 | exact h4.symm | exact h3 | exact h3.symm | exact h4.1 | exact h4.1.symm
        omega

end Go.Proofs.YtmlmdljnfokebaaGreatDoor

/- Chapter 49: the reference's has, subject, Check, Same, the program's Equal. Messages that are not too great. -/
namespace Go.Proofs.YtmlmdljnfokebaaGreatDoor
open Go.RowKit Go.Maps

theorem xhas_any (l : List ByteArray) (i : Nat) (x : ByteArray) (p : Option Addr) (c : Nat) (w : World) (hR : StrP w p l) (hi : i ≤ l.length) (hl : l.length ≤ 4611686018427387904) :
    Calls Tryz.prog 89 #[.slice p i c, .string x] w fun e w' => e = .returned (.bool (Lib.containsS (l.take i) x)) ∧ K0 w w' := by
  refine vc_xhas p i c x w _ ?_
  refine ⟨fun vs w' => ∃ k : Nat, vs = [.int .i64 (k : Int)] ∧ k ≤ i ∧ x ∉ l.take k ∧ K0 w w',
    fun vs _ => (match vs with | .int _ y :: _ => i - y.toNat | _ => 0), ⟨0, rfl, by omega, by simp, .refl _ _⟩, ?_⟩
  rintro y w1 ⟨k, hv, hk, hno, k1⟩
  simp only [List.cons.injEq, Value.int.injEq, true_and, and_true] at hv
  subst hv
  refine bsp_intro (fun hlt => ?_) (fun hge => ?_)
  · have hlt : k < i := by simp at hlt; omega
    obtain ⟨z, b, o, hz, hp, hc⟩ := str_get (hR.k0 k1) (k := k) (by omega)
    rw [Int.toNat_natCast]
    refine nn_is hp ⟨⟨by omega, by omega⟩, z, hc, bsp_intro (fun h => ?_) (fun h => ?_)⟩
    · have e : z = x := str_eq (by simpa using h)
      have : Lib.containsS (l.take i) x = true := (Lib.containsS_iff _ _).2 (by
        rw [← e]
        exact List.mem_of_getElem? (i := k) (by rw [List.getElem?_take, if_pos hlt, hz]))
      rw [this]; exact ⟨rfl, k1⟩
    · have e : z ≠ x := fun e => by rw [e] at h; simp at h
      refine ⟨⟨k + 1, by rw [inc64 (by omega)], hlt, ?_, k1⟩, by rw [inc64 (by omega)]; simp only [Int.toNat_natCast]; omega⟩
      rw [take_snoc hz]
      intro hm
      rcases List.mem_append.1 hm with h | h
      · exact hno h
      · simp at h; exact e h.symm
  · have hk2 : k = i := by simp at hge; omega
    subst hk2
    have : Lib.containsS (l.take k) x = false := by
      cases hq : Lib.containsS (l.take k) x with
      | false => rfl
      | true => exact absurd ((Lib.containsS_iff _ _).1 hq) hno
    rw [this]; exact ⟨rfl, k1⟩
theorem xsubj_any (s : ByteArray) (w : World) : Calls Tryz.prog 88 #[.string s] w fun e w' => e = .returned (.int .i64 (subjE s)) ∧ K0 w w' := by
  refine vc_xsubj s w _ (bsp_intro (fun h => ?_) (fun h => ?_))
  · unfold subjE; rw [if_pos (by simp at h; omega)]; exact ⟨rfl, .refl _ _⟩
  have h200 : ¬ 200 < s.size := by simp at h; omega
  unfold subjE
  rw [if_neg h200]
  refine ⟨(r1printable_any s w (by omega)).mono fun e w1 ⟨he, k1⟩ => ⟨_, he, .of_k0 k1, ?_⟩⟩
  rw [show decide (prtN s ≥ 0) = !prtS s from prt_neg]
  refine bsp_intro (fun h => ?_) (fun h => ?_)
  · rw [if_pos (by simpa using h)]; exact ⟨rfl, k1⟩
  rw [if_neg (by simpa using h)]
  refine ⟨(r1squeeze_any s w1 (by omega)).mono fun e w2 ⟨he, k2⟩ => ⟨_, he, .of_k0 k2, bsp_intro (fun h => ?_) (fun h => ?_)⟩⟩
  · rw [if_pos (fun e => by rw [e] at h; simp at h)]; exact ⟨rfl, k1.trans k2⟩
  · rw [if_neg (fun hne => hne (str_eq (by simpa using h)))]; exact ⟨rfl, k1.trans k2⟩
theorem xcheck_any (m : Ml) (p : Option Addr) (c : Nat) (w : World) (hR : StrP w p m.hops) (hc : m.hops.length ≤ c) (hz : m.fu.size ≤ 4611686018427387904 ∧ m.tu.size ≤ 4611686018427387904) (hhl : m.hops.length ≤ 4611686018427387904) :
    Calls Tryz.prog 43 #[mxA m p c] w fun e w' => e = .returned (.int .i64 (chkM m)) ∧ K0 w w' := by
  refine vc_xcheck m.fu m.fs m.tu m.ts m.n m.d m.sj p m.hops.length c m.bd w _ (fun n1 W hW => ?_)
  have kW : K0 w W := hW.kk rfl
  have hb0 := hW.cells 0 rfl
  have env : ∀ v, envE m = v → v ≠ 0 → chkM m = v := fun v h h0 => by unfold chkM; rw [h, if_pos h0]
  refine ⟨(xuser_any m.fu W hz.1).mono fun e w1 ⟨he, k1⟩ => ⟨_, he, .of_k0 k1, bsp_intro (fun h => ?_) (fun h => ?_)⟩⟩
  · rw [env 12 (by unfold envE; rw [if_pos (by simpa using h)]) (by decide)]; exact ⟨rfl, kW.trans k1⟩
  have h1 : ¬ userB m.fu = false := by simpa using h
  refine ⟨(xsite_any m.fs w1).mono fun e w2 ⟨he, k2⟩ => ⟨_, he, .of_k0 k2, bsp_intro (fun h => ?_) (fun h => ?_)⟩⟩
  · have h : siteE m.fs ≠ 0 := by simpa using h
    rw [env (siteE m.fs) (by unfold envE; rw [if_neg h1, if_pos h]) h]
    exact ⟨(xsite_any m.fs w2).mono fun e w3 ⟨he, k3⟩ => ⟨_, he, .of_k0 k3, rfl, (kW.trans k1).trans (k2.trans k3)⟩⟩
  have h2 : ¬ siteE m.fs ≠ 0 := by simpa using h
  refine ⟨(xuser_any m.tu w2 hz.2).mono fun e w3 ⟨he, k3⟩ => ⟨_, he, .of_k0 k3, m.tu, gimp_intro fun _ => cell_at ((k1.trans (k2.trans k3)).blk hb0 (fun h => h)) rfl, ?_⟩⟩
  have k03 := kW.trans (k1.trans (k2.trans k3))
  rw [toList_nil]
  refine bsp_intro (fun h => ?_) (fun h => ?_)
  · rw [env 12 (by unfold envE; rw [if_neg h1, if_neg h2, if_pos (by simpa using h)]) (by decide)]; exact ⟨rfl, k03⟩
  have h3 : ¬ (userB m.tu = false ∨ m.tu.size = 0) := by simpa using h
  refine ⟨(xsite_any m.ts w3).mono fun e w4 ⟨he, k4⟩ => ⟨_, he, .of_k0 k4, bsp_intro (fun h => ?_) (fun h => ?_)⟩⟩
  · have h : siteE m.ts ≠ 0 := by simpa using h
    rw [env (siteE m.ts) (by unfold envE; rw [if_neg h1, if_neg h2, if_neg h3, if_pos h]) h]
    exact ⟨(xsite_any m.ts w4).mono fun e w5 ⟨he, k5⟩ => ⟨_, he, .of_k0 k5, rfl, (k03.trans k4).trans k5⟩⟩
  have h4 : ¬ siteE m.ts ≠ 0 := by simpa using h
  have k04 := k03.trans k4
  refine ⟨m.n, gimp_intro fun _ => cell_at ((k1.trans ((k2.trans k3).trans k4)).blk hb0 (fun h => h)) rfl, bsp_intro (fun h => ?_) (fun h => ?_)⟩
  · rw [env 2 (by unfold envE; rw [if_neg h1, if_neg h2, if_neg h3, if_neg h4, if_pos (by simpa using h)]) (by decide)]; exact ⟨rfl, k04⟩
  have h5 : ¬ (m.n < 0 ∨ 2147483647 < m.n) := by simp at h; omega
  refine bsp_intro (fun h => ?_) (fun h => ?_)
  · rw [env 13 (by unfold envE; rw [if_neg h1, if_neg h2, if_neg h3, if_neg h4, if_neg h5, if_pos (by simpa using h)]) (by decide)]; exact ⟨rfl, k04⟩
  have h6 : ¬ minB m.d = false := by simpa using h
  have e0 : envE m = 0 := by unfold envE; rw [if_neg h1, if_neg h2, if_neg h3, if_neg h4, if_neg h5, if_neg h6]
  unfold chkM
  rw [e0, if_neg (by decide)]
  refine ⟨(xsubj_any m.sj w4).mono fun e w5 ⟨he, k5⟩ => ⟨_, he, .of_k0 k5, bsp_intro (fun h => ?_) (fun h => ?_)⟩⟩
  · rw [if_pos (by simpa using h)]
    exact ⟨(xsubj_any m.sj w5).mono fun e w6 ⟨he, k6⟩ => ⟨_, he, .of_k0 k6, rfl, (k04.trans k5).trans k6⟩⟩
  rw [if_neg (by simpa using h)]
  have k05 := k04.trans k5
  refine bsp_intro (fun h => ?_) (fun h => ?_)
  · rw [if_pos (by simp at h; omega)]; exact ⟨rfl, k05⟩
  rw [if_neg (by simp at h; omega)]
  have h16 : m.hops.length ≤ 16 := by simp at h; omega
  generalize hE : hopsE [] m.hops = E
  refine ⟨fun vs w' => ∃ i : Nat, vs = [.int .i64 (i : Int)] ∧ i ≤ m.hops.length ∧ hopsE (m.hops.take i) (m.hops.drop i) = E ∧ K0 w w',
    fun vs _ => (match vs with | .int _ x :: _ => m.hops.length - x.toNat | _ => 0), ⟨0, rfl, by omega, hE, k05⟩, ?_⟩
  rintro x w6 ⟨i, hv, hi, hEi, k6⟩ _
  simp only [List.cons.injEq, Value.int.injEq, true_and, and_true] at hv
  subst hv
  refine bsp_intro (fun hlt => ?_) (fun hge => ?_)
  · have hlt : i < m.hops.length := by simp at hlt; omega
    obtain ⟨h, b, o, hh, hp, hcell⟩ := str_get (hR.k0 k6) hlt
    rw [hopsE_step hh] at hEi
    rw [Int.toNat_natCast]
    refine nn_is hp ⟨⟨by omega, by omega⟩, h, hcell, ?_⟩
    refine ⟨(xsite_any h w6).mono fun e w7 ⟨he, k7⟩ => ⟨_, he, .of_k0 k7, bsp_intro (fun hs => ?_) (fun hs => ?_)⟩⟩
    · have hs : siteE h ≠ 0 := by simpa using hs
      rw [if_pos hs] at hEi
      subst hEi
      rw [if_pos hs]; exact ⟨rfl, k6.trans k7⟩
    have hs : ¬ siteE h ≠ 0 := by simpa using hs
    rw [if_neg hs] at hEi
    refine ⟨⟨by omega, by omega⟩, nn_is hp ⟨⟨by omega, by omega⟩, h, fun W hW => (k7.trans (hW.kk rfl)).cell' hcell (fun h => h), fun W hW => ?_⟩⟩
    have k8 : K0 w7 W := hW.kk rfl
    refine ⟨(xhas_any m.hops i h p c W (hR.k0 ((k6.trans k7).trans k8)) (by omega) hhl).mono fun e w9 ⟨he, k9⟩ => ⟨_, he, .of_k0 k9, bsp_intro (fun hq => ?_) (fun hq => ?_)⟩⟩
    · rw [if_pos hq] at hEi
      subst hEi
      rw [if_pos (by decide)]; exact ⟨rfl, ((k6.trans k7).trans k8).trans k9⟩
    · rw [if_neg (by rw [hq]; decide)] at hEi
      exact ⟨⟨i + 1, by rw [inc64 (by omega)], hlt, hEi, ((k6.trans k7).trans k8).trans k9⟩, by rw [inc64 (by omega)]; simp only [Int.toNat_natCast]; omega⟩
  · have hi : i = m.hops.length := by simp at hge; omega
    subst hi
    rw [List.drop_length] at hEi
    have hE0 : E = 0 := by rw [← hEi]; rfl
    rw [hE0, if_neg (by decide)]
    refine bsp_intro (fun h => ?_) (fun h => ?_)
    · rw [if_pos (by simp at h; omega)]; exact ⟨rfl, k6⟩
    · rw [if_neg (by simp at h; omega)]; exact ⟨rfl, k6⟩

/-! ### Equal messages -/
def eqM (a b : Ml) : Bool := decide (a.fu = b.fu ∧ a.fs = b.fs) && decide (a.tu = b.tu ∧ a.ts = b.ts) && a.n == b.n && a.d == b.d && a.sj.toList == b.sj.toList && decide (a.hops = b.hops) && a.bd.toList == b.bd.toList
theorem eqM_self (a : Ml) : eqM a a = true := by unfold eqM; simp

end Go.Proofs.YtmlmdljnfokebaaGreatDoor

/- Chapter 49: the reference's decimal numbers. No condition but the range. -/
namespace Go.Proofs.YtmlmdljnfokebaaGreatDoor
open Go.RowKit

theorem one_byte {w : World} {n u : Nat} (hu : u < 10) {t : TypeId} {f : Nat × Nat} (h : w.heap[n]? = some (.cells #[.int .u8 (48 + u : Int)] t f)) : BytesP w (some ⟨n, 0, none⟩) ⟨#[UInt8.ofNat (48 + u)]⟩ := by
  refine ⟨.inr ⟨n, 0, rfl, ?_⟩⟩
  have e : byteCells ⟨#[UInt8.ofNat (48 + u)]⟩ = [.int .u8 (48 + u : Int)] := by
    show [Value.int .u8 ((UInt8.ofNat (48 + u)).toNat : Int)] = _
    rw [dig_nat hu]
  rw [e]
  exact cell_at h rfl
def dgB (u : Nat) : ByteArray := ⟨#[UInt8.ofNat (48 + u)]⟩
theorem dgB_size (u : Nat) : (dgB u).size = 1 := rfl
theorem conv1 (w : World) {u : Nat} (hu : u < 10) : (convert 138 9 (.slice (some ⟨w.heap.size, 0, none⟩) 1 1)).run Tryz.prog (w.alloc (.cells #[.int .u8 (48 + u : Int)] 5)) = .ok (.string (dgB u)) (w.alloc (.cells #[.int .u8 (48 + u : Int)] 5)) :=
  run_bytesP Tryz.underlying138 Tryz.underlying5 Tryz.underlying9 rfl (one_byte hu (NewB.block ⟨rfl, rfl⟩))
theorem convK {W w1 : World} {u : Nat} (hu : u < 10) (k : K0 (W.alloc (.cells #[.int .u8 (48 + u : Int)] 5)) w1) : (convert 138 9 (.slice (some ⟨W.heap.size, 0, none⟩) 1 1)).run Tryz.prog w1 = .ok (.string (dgB u)) w1 :=
  run_bytesP Tryz.underlying138 Tryz.underlying5 Tryz.underlying9 rfl (one_byte hu (k.blk (NewB.block ⟨rfl, rfl⟩) (fun h => h)))
theorem allocK (w : World) (o : Obj) : K0 w (w.alloc o) := ⟨rfl, rfl, rfl, by simp, fun k hk _ => Below.heap_alloc _ _ _ hk⟩
theorem drewK (w : World) : K0 w w.drew := ⟨rfl, rfl, rfl, Nat.le_refl _, fun _ _ _ => rfl⟩
theorem decT_big' {u : Nat} (h : ¬ u < 10) : decT (u / 10) ++ dgB (u % 10) = decT u := (decT_big h).symm
set_option maxHeartbeats 2000000 in
set_option maxRecDepth 1000000 in
theorem plain_any (u : Nat) : ∀ (w : World), u < 18446744073709551616 → Calls Tryz.prog 92 #[.int .u64 u] w fun e w' => e = .returned (.string (decT u)) ∧ K0 w w' := by
  induction u using Nat.strongRecOn with
  | _ u ih =>
    intro w hu
    have mixed : Tryz.prog.follows .mixedOrders = true := by kernel_rfl
    have t5 := Tryz.underlying5; have a5 := Tryz.isAgg5; have z5 := Tryz.sizeOf5; have v5 := Tryz.zeroValue5
    have t9 := Tryz.underlying9; have a9 := Tryz.isAgg9; have z9 := Tryz.sizeOf9; have v9 := Tryz.zeroValue9
    have tu := Tryz.underlying149; have au := Tryz.isAgg149; have zu := Tryz.sizeOf149; have vu := Tryz.zeroValue149
    have tb := Tryz.underlying138; have ab := Tryz.isAgg138; have zb := Tryz.sizeOf138; have vb := Tryz.zeroValue138
    have e0 : ∀ v : Nat, v < 10 → IntKind.u8.wrap (IntKind.u64.wrap (48 + (v : Int))) = 48 + (v : Int) := fun v hv => by
      rw [IntWalk.u64_in _ ⟨by omega, by omega⟩, IntWalk.u8_in _ ⟨by omega, by omega⟩]
    go_enter Tryz.func92, Tryz.ntmps92
    go_wp2
    · rename_i hlt
      have hlt : u < 10 := by omega
      rw [conv1 w hlt]
      simp only [Result.andThen]
      rw [Oper.upon_value]
      go_wp2
      go_ret
      exact ⟨by rw [decT_small hlt]; rfl, allocK _ _⟩
    · rename_i hge
      have hge : ¬ u < 10 := by omega
      have hv : u % 10 < 10 := by omega
      have ih' : ∀ W : World, Calls Tryz.prog 92 #[.int .u64 ((u : Int) / 10)] W fun e w' => e = .returned (.string (decT (u / 10))) ∧ K0 W w' := by
        have e1 : (u : Int) / 10 = ((u / 10 : Nat) : Int) := by omega
        rw [e1]
        exact fun W => ih (u / 10) (by omega) W (by omega)
      have hcv : ∀ W : World, (convert 138 9 (.slice (some ⟨W.heap.size, 0, none⟩) 1 1)).run Tryz.prog (W.alloc (.cells #[.int .u8 (48 + (u : Int) % 10)] 5)) = .ok (.string (dgB (u % 10))) (W.alloc (.cells #[.int .u8 (48 + (u : Int) % 10)] 5)) := by
        have e2 : (u : Int) % 10 = ((u % 10 : Nat) : Int) := by omega
        rw [e2]
        exact fun W => conv1 W hv
      have hcw : ∀ W w1 : World, K0 (W.alloc (.cells #[.int .u8 (48 + (u : Int) % 10)] 5)) w1 → (convert 138 9 (.slice (some ⟨W.heap.size, 0, none⟩) 1 1)).run Tryz.prog w1 = .ok (.string (dgB (u % 10))) w1 := by
        have e2 : (u : Int) % 10 = ((u % 10 : Nat) : Int) := by omega
        rw [e2]
        exact fun W w1 => convK hv
      have e3 : IntKind.u8.wrap (IntKind.u64.wrap (48 + (u : Int) % 10)) = 48 + (u : Int) % 10 := by
        have e2 : (u : Int) % 10 = ((u % 10 : Nat) : Int) := by omega
        rw [e2]
        exact e0 (u % 10) hv
      clear e0
      have hcx := hcw w _ (drewK _)
      have hsz : ¬ 9223372036854775807 < (decT (u / 10)).size + (dgB (u % 10)).size := by
        have h1 : (decT (u / 10)).size ≤ 20 := by
          have h2 : (Lib.decDigits (u / 10)).length ≤ 20 := by
            rw [Lib.decDigits_length]
            exact Lib.nDigits_le20 _ (by omega)
          simpa [decT, ByteArray.size] using h2
        rw [dgB_size]
        omega
      have e1 : IntKind.u64.wrap ((u : Int) / 10) = (u : Int) / 10 := IntWalk.u64_in _ ⟨by omega, by omega⟩
      have e2 : (u : Int).tmod 10 = (u : Int) % 10 := Int.tmod_eq_emod_of_nonneg (by omega)
      go_region_with (first
        | (go_at_call 92; refine (ih' _).mono ?_; rintro e w1 ⟨rfl, k1⟩; first | (have hcv2 : (convert 138 9 (.slice (some ⟨w.heap.size, 0, none⟩) 1 1)).run Tryz.prog w1 = .ok (.string (dgB (u % 10))) w1 := by first | exact hcw w.drew w1 k1 | exact hcw w w1 ((drewK _).trans k1)) | skip)
        | (rw [hcv]; simp only [Result.andThen]; rw [Oper.upon_value])
        | (rw [hcx]; simp only [Result.andThen]; rw [Oper.upon_value])
        | (rw [hcv2]; simp only [Result.andThen]; rw [Oper.upon_value])
)
      all_goals go_simp
      all_goals go_wp2
      all_goals go_ret
      all_goals refine ⟨by rw [decT_big' hge]; rfl, ?_⟩
      · exact ((drewK w).trans k1).trans (allocK _ _)
      · exact ((allocK w _).trans (drewK _)).trans k1
      · exact ((drewK w).trans (allocK _ _)).trans k1

/-- Digits: any int64. -/
theorem r1digits_any (x : Int) (w : World) (h : I64 x) : Calls Tryz.prog 46 #[.int .i64 x] w fun e w' => e = .returned (.string (decI x)) ∧ K0 w w' := by
  obtain ⟨h1, h2⟩ := h
  refine vc_r1digits x w _ (bsp_intro (fun hn => ?_) (fun hn => ?_))
  · have hn : x < 0 := by simpa using hn
    obtain ⟨u, hu⟩ : ∃ u : Nat, x = -(u : Int) := ⟨x.natAbs, by omega⟩
    subst hu
    have e1 : IntKind.u64.wrap (IntKind.u64.wrap (IntKind.i64.wrap (0 - IntKind.i64.wrap (-(u : Int) + 1))) + 1) = ((u : Nat) : Int) := by
      rw [IntWalk.i64_in (-(u : Int) + 1) ⟨by omega, by omega⟩, IntWalk.i64_in _ ⟨by omega, by omega⟩, IntWalk.u64_in (0 - (-(u : Int) + 1)) ⟨by omega, by omega⟩, IntWalk.u64_in (0 - (-(u : Int) + 1) + 1) ⟨by omega, by omega⟩]
      omega
    rw [e1]
    have hl : (decT u).size ≤ 20 := by
      have h2 : (Lib.decDigits u).length ≤ 20 := by
        rw [Lib.decDigits_length]
        exact Lib.nDigits_le20 _ (by omega)
      simpa [decT, ByteArray.size] using h2
    refine ⟨(plain_any u w (by omega)).mono ?_⟩
    rintro e w1 ⟨rfl, k1⟩
    refine ⟨decT u, rfl, .of_k0 k1, ?_, ?_, k1⟩
    · have e45 : (ByteArray.mk #[45]).size = 1 := rfl
      rw [e45]
      exact nneg (by omega)
    · have : decI (-(u : Int)) = ⟨#[45]⟩ ++ decT u := by
        unfold decI decT
        rw [Lib.itoa_neg u (by omega)]
        exact ByteArray.ext (by simp)
      rw [this]
  · have hn : 0 ≤ x := by simpa using hn
    obtain ⟨u, rfl⟩ : ∃ u : Nat, x = (u : Int) := ⟨x.toNat, by omega⟩
    rw [IntWalk.u64_in _ ⟨by omega, by omega⟩]
    refine ⟨(plain_any u w (by omega)).mono ?_⟩
    rintro e w1 ⟨rfl, k1⟩
    refine ⟨decT u, rfl, .of_k0 k1, ?_, k1⟩
    unfold decI decT
    rw [Lib.itoa_nonneg]

end Go.Proofs.YtmlmdljnfokebaaGreatDoor

/- The formulas of functions by the symbolic evaluator, and that each gives the call's contract. Written by a program (gen.py). No condition. -/
namespace Go.Proofs.YtmlmdljnfokebaaGreatDoor
set_option maxRecDepth 100000
set_option linter.unusedVariables false



end Go.Proofs.YtmlmdljnfokebaaGreatDoor

/- Chapter 49: the reference's Same and Bounce; MailBounces on worlds. Strings have at most 2^47 bytes. -/
namespace Go.Proofs.YtmlmdljnfokebaaGreatDoor
open Go.RowKit Go.Maps

theorem axKey (a b : ByteArray) (ha : a.size ≤ 4611686018427387904) (hb : b.size ≤ 4611686018427387904) (D : Nat) : Tryz.prog.keyLits (D + 2) 30 [.string a, .string b] = some [.string a.data.toList, .string b.data.toList] := by
  unfold Program.keyLits
  rw [Tryz.underlying30]
  simp only
  have c0 : Tryz.prog.cellsOf 30 = 2 := by kernel_rfl
  rw [if_pos ⟨by rw [c0]; rfl, by decide +kernel⟩]
  have h1 : ∀ s : ByteArray, s.size ≤ 4611686018427387904 → Tryz.prog.keyLits (D + 1) 9 [.string s] = some [.string s.data.toList] := fun s hs => by
    unfold Program.keyLits
    rw [Tryz.underlying9]
    simp only
    rw [if_pos (by unfold maxLen; omega)]
  have c1 : Tryz.prog.cellsOf 9 = 1 := by kernel_rfl
  simp only [List.mapM_cons, List.mapM_nil, c1]
  have e1 : ([Value.string a, .string b].drop 0).take 1 = [.string a] := rfl
  have e2 : ([Value.string a, .string b].drop 1).take 1 = [.string b] := rfl
  rw [e1, e2, h1 a ha, h1 b hb]
  rfl
theorem axKeyOf (a b : ByteArray) (ha : a.size ≤ 4611686018427387904) (hb : b.size ≤ 4611686018427387904) : keyOf Tryz.prog 30 (.agg #[.string a, .string b]) = some (.string (keyBytes [.string a.data.toList, .string b.data.toList])) := by
  unfold keyOf
  rw [Tryz.underlying30]
  simp only
  have h1 : Tryz.prog.keyType 30 = true := by kernel_rfl
  have hf' : (Value.agg #[.string a, .string b]).formed Tryz.prog 30 = true := by
    unfold Value.formed
    rw [Tryz.underlying30]
    have c0 : Tryz.prog.cellsOf 30 = 2 := by kernel_rfl
    simp only
    rw [c0]; rfl
  rw [h1, hf']
  have h2 := axKey a b ha hb (Tryz.prog.types.size - 1)
  have hsz : 2 ≤ Tryz.prog.types.size := by decide +kernel
  have e2 : Tryz.prog.types.size - 1 + 2 = Tryz.prog.types.size + 1 := by omega
  rw [e2] at h2
  have : (Value.agg #[.string a, .string b]).cells.toList = [.string a, .string b] := by simp [Value.cells]
  rw [this, h2]
  rfl
set_option maxRecDepth 100000 in
theorem axEq (a b c d : ByteArray) (ha : a.size ≤ 4611686018427387904) (hb : b.size ≤ 4611686018427387904) (hc : c.size ≤ 4611686018427387904) (hd : d.size ≤ 4611686018427387904) :
    EqP Tryz.prog 30 (.agg #[.string a, .string b]) (.agg #[.string c, .string d]) (decide (a = c ∧ b = d)) := by
  refine ⟨fun w => ?_, by kernel_rfl, _, _, rfl, rfl⟩
  obtain ⟨r, hr, hi⟩ := run_equal_deep w (m := 3) (by omega) (by kernel_rfl) (by rw [Tryz.underlying30]) (axKeyOf a b ha hb) (axKeyOf c d hc hd)
  rw [hr]
  congr 1
  rw [Bool.eq_iff_iff, hi, decide_eq_true_eq]
  constructor
  · intro h
    have h : keyBytes [.string a.data.toList, .string b.data.toList] = keyBytes [.string c.data.toList, .string d.data.toList] := by simpa using h
    have := keyLits_inj (axKey a b ha hb 0) (axKey c d hc hd 0) h
    simp only [List.cons.injEq, Lit.string.injEq, and_true] at this
    exact ⟨ByteArray.ext (Array.toList_inj.1 this.1), ByteArray.ext (Array.toList_inj.1 this.2)⟩
  · rintro ⟨rfl, rfl⟩; rfl


/-- The strings of a message that are compared as parts of addresses are not too great. -/
def SzM (m : Ml) : Prop := m.fu.size ≤ 4611686018427387904 ∧ m.fs.size ≤ 4611686018427387904 ∧ m.tu.size ≤ 4611686018427387904 ∧ m.ts.size ≤ 4611686018427387904
theorem xsame_any (a b : Ml) (p : Option Addr) (c : Nat) (q : Option Addr) (d : Nat) (w : World) (hp : StrP w p a.hops) (hq : StrP w q b.hops) (hl : a.hops.length ≤ 1099511627776) (za : SzM a) (zb : SzM b) :
    Calls Tryz.prog 10 #[mxA a p c, mxA b q d] w fun e w' => e = .returned (.bool (eqM a b)) ∧ K0 w w' := by
  refine vc_xsame a.fu a.fs a.tu a.ts a.n a.d a.sj p a.hops.length c a.bd b.fu b.fs b.tu b.ts b.n b.d b.sj q b.hops.length d b.bd w _ (fun n1 n2 => ?_)
  refine ⟨_, axEq _ _ _ _ za.1 za.2.1 zb.1 zb.2.1, a.tu, a.ts, gimp_intro fun _ W hW => AtL_block (hW.cells 1 rfl) rfl, b.tu, b.ts, gimp_intro fun _ W hW => AtL_block (hW.cells 0 rfl) rfl, _, gimp_intro fun _ => axEq _ _ _ _ za.2.2.1 za.2.2.2 zb.2.2.1 zb.2.2.2, ?_⟩
  refine ⟨a.n, gimp_intro fun _ W hW => cell_at (hW.cells 1 rfl) rfl, b.n, gimp_intro fun _ W hW => cell_at (hW.cells 0 rfl) rfl, a.d, gimp_intro fun _ W hW => cell_at (hW.cells 1 rfl) rfl, b.d, gimp_intro fun _ W hW => cell_at (hW.cells 0 rfl) rfl, ?_⟩
  refine ⟨a.sj, gimp_intro fun _ W hW => cell_at (hW.cells 1 rfl) rfl, b.sj, gimp_intro fun _ W hW => cell_at (hW.cells 0 rfl) rfl, a.bd, gimp_intro fun _ W hW => cell_at (hW.cells 1 rfl) rfl, b.bd, gimp_intro fun _ W hW => cell_at (hW.cells 0 rfl) rfl, ?_⟩
  refine ⟨p, a.hops.length, c, gimp_intro fun _ W hW => cell_at (hW.cells 1 rfl) rfl, q, b.hops.length, d, gimp_intro fun _ W hW => cell_at (hW.cells 0 rfl) rfl, fun W hW => ?_⟩
  have kW : K0 w W := hW.kk rfl
  refine bsp_intro (fun h => ?_) (fun h => ?_)
  · refine ⟨(r1same_any a.hops b.hops p c q d W (hp.k0 kW) (hq.k0 kW) hl).mono fun e w1 ⟨he, k1⟩ => ⟨_, he, .of_k0 k1, ?_, kW.trans k1⟩⟩
    have e1 : eqM a b = (true && decide (a.hops = b.hops)) := by
      rw [← h]; unfold eqM
      generalize decide (a.hops = b.hops) = z
      generalize (a.bd.toList == b.bd.toList) = y
      cases z <;> cases y <;> simp
    rw [e1]
  · refine ⟨.refl _ _, ?_, kW⟩
    have e1 : eqM a b = false := by
      unfold eqM
      generalize decide (a.hops = b.hops) = z
      generalize hy : (a.bd.toList == b.bd.toList) = y at h
      cases z <;> cases y <;> simp_all
    rw [e1]
theorem xbounce_any (m : Ml) (p : Option Addr) (c : Nat) (s : ByteArray) (code now : Int) (w : World) (hR : StrP w p m.hops) (hc : m.hops.length ≤ c) (hz : SzM m) (hhl : m.hops.length ≤ 4611686018427387904) (hcode : I64 code) :
    Calls Tryz.prog 100 #[mxA m p c, .string s, .int .i64 code, .int .i64 now] w fun e w' => e = .returned (.tuple #[mxA ((bncM m s code now).getD mz) none 0, .bool (bncM m s code now).isSome]) ∧ K0 w w' := by
  refine vc_xbounce m.fu m.fs m.tu m.ts m.n m.d m.sj p m.hops.length c m.bd s code now w _ (fun n1 n2 W hW => ?_)
  have kW : K0 w W := hW.kk rfl
  rw [toList_nil]
  unfold bncM
  refine bsp_intro (fun h => ?_) (fun h => ?_)
  · rw [if_neg (by simpa using h)]
    refine ⟨(xcheck_any m p c W (hR.k0 kW) hc ⟨hz.1, hz.2.2.1⟩ hhl).mono fun e w1 ⟨he, k1⟩ => ⟨_, he, .of_k0 k1, bsp_intro (fun h => ?_) (fun h => ⟨.refl _ _, fun W2 hW2 => ?_⟩)⟩⟩
    · have h0 : chkM m = 0 := by simpa using h
      obtain ⟨z1, z2, z3, z4, z5, z6, z7, z8, z9, z10, z11, z12⟩ := chkM_bd h0
      refine ⟨(xsite_any s w1).mono fun e w2 ⟨he, k2⟩ => ⟨_, he, .of_k0 k2, bsp_intro (fun h => fun W2 hW2 => ?_) (fun h => ?_)⟩⟩
      · have h1 : siteE s ≠ 0 ∨ minB now = false := by simpa using h
        have e1 : (if chkM m ≠ 0 ∨ minB now = false then (none : Option Ml) else if siteE s ≠ 0 then none else some ⟨⟨#[]⟩, s, m.fu, m.fs, m.n, now, ⟨#[78, 111, 116, 32, 100, 101, 108, 105, 118, 101, 114, 101, 100]⟩, [], m.tu ++ ⟨#[64]⟩ ++ m.ts ++ ⟨#[32]⟩ ++ decI code ++ ⟨#[10]⟩ ++ m.sj ++ ⟨#[10]⟩⟩) = none := by
          split
          · rfl
          · rename_i h2
            rw [if_pos (h1.resolve_right fun h => h2 (.inr h))]
        rw [e1]
        exact ⟨rfl, hW2.k0 ((kW.trans k1).trans k2)⟩
      have h1 : siteE s = 0 ∧ minB now = true := by simpa using h
      rw [if_neg (by rw [h0, h1.2]; simp), if_neg (by rw [h1.1]; simp)]
      intro W3 hW3
      have k3 : K0 w2 W3 := hW3.kk rfl
      have k03 := ((kW.trans k1).trans k2).trans k3
      have hc2 : W3.heap[n2]? = some (.cells #[.string ⟨#[]⟩, .string ⟨#[]⟩, .string ⟨#[]⟩, .string ⟨#[]⟩, .int .i64 0, .int .i64 0, .string ⟨#[]⟩, .slice none 0 0, .string ⟨#[]⟩] 32 (0, 0)) := hW3.cells 0 rfl
      have hc1 : W3.heap[n1]? = some (.cells #[.string m.fu, .string m.fs, .string m.tu, .string m.ts, .int .i64 m.n, .int .i64 m.d, .string m.sj, .slice p m.hops.length c, .string m.bd] 32 (0, 0)) := hW3.cells 1 rfl
      have g2 : w.heap.size ≤ n2 := hW.fresh 0 rfl rfl
      have hne : n2 ≠ n1 := hW.apart 0 1 rfl rfl (by decide)
      have hat : ∀ (o : Nat) (cs : List Value), ((#[.string m.fu, .string m.fs, .string m.tu, .string m.ts, .int .i64 m.n, .int .i64 m.d, .string m.sj, .slice p m.hops.length c, .string m.bd] : Array Value).toList.drop o).take cs.length = cs → ∀ wx, K0 W3 wx → AtL wx n1 o cs := fun o cs hcs wx k => AtL_block (k.blk hc1 (fun h => h)) hcs
      refine ⟨fun wx => K0 W3 wx, .refl _ _, m.fu, m.fs, fun wx k => hat 0 _ rfl wx k, m.n, fun wx k => cell_at (k.blk hc1 (fun h => h)) rfl, m.tu, m.ts, fun wx k => hat 2 _ rfl wx k, m.sj, fun wx k => cell_at (k.blk hc1 (fun h => h)) rfl, ?_⟩
      refine ⟨(xtext_any m.tu m.ts W3 (by omega) (by omega)).mono fun e w4 ⟨he, k4⟩ => ⟨_, he, k4, nneg (by simp only [ByteArray.size_append, size_one]; omega), ?_⟩⟩
      have hd := decI_size hcode
      refine ⟨(r1digits_any code w4 hcode).mono fun e w5 ⟨he, k5⟩ => ⟨_, he, k4.trans k5, nneg (by simp only [ByteArray.size_append, size_one]; omega), nneg (by simp only [ByteArray.size_append, size_one]; omega), nneg (by simp only [ByteArray.size_append, size_one]; omega), nneg (by simp only [ByteArray.size_append, size_one]; omega), ?_⟩⟩
      have hc5 := (k4.trans k5).blk hc2 (fun h => h)
      refine ⟨WrL_block hc5 (Nat.le_refl 9), fun w6 hp => ?_⟩
      have hc6 := hp.full hc5 rfl
      refine ⟨⟨by rw [hp.size]; exact (k4.trans k5).size, fun x hx hlt' => ?_⟩, _, _, _, _, _, _, _, _, _, _, _, AtL_block hc6 rfl, rfl, put_k0 (k03.trans (k4.trans k5)) hp g2⟩
      obtain rfl : x = n1 := by simpa using hx
      rw [hp.blk ((k4.trans k5).blk hc1 (fun h => h)) (fun e => hne e.symm), hc1]
    · have h0 : chkM m ≠ 0 := by simpa using h
      rw [if_pos (.inl h0)]
      exact ⟨rfl, hW2.k0 (kW.trans k1)⟩
  · rw [if_pos (by simpa using h)]
    exact ⟨.refl _ _, .refl _ _, fun W2 hW2 => ⟨rfl, hW2.k0 kW⟩⟩

theorem bnc_no (m : Ml) (s : ByteArray) (code now : Int) (h : m.fu.size = 0) : bncM m s code now = none := by unfold bncM; rw [if_pos h]
theorem bnc_get {m : Ml} {s : ByteArray} {code now : Int} (hcode : I64 code) : ((bncM m s code now).getD mz).fu.size = 0 ∧ ((bncM m s code now).getD mz).hops = [] ∧ SzM ((bncM m s code now).getD mz) ∧ ((bncM m s code now).getD mz).bd.size ≤ 32768 ∧ ((bncM m s code now).isSome = true → chkM ((bncM m s code now).getD mz) = 0) := by
  cases h : bncM m s code now with
  | none => exact ⟨rfl, rfl, ⟨by decide, by decide, by decide, by decide⟩, by decide, fun h => by cases h⟩
  | some y =>
    obtain ⟨h1, h2, h3⟩ := bnc_ok hcode h
    obtain ⟨z1, z2, z3, z4, z5, z6, z7, z8, z9, z10, z11, z12⟩ := chkM_bd h1
    simp only [Option.getD_some]
    exact ⟨h3, h2, ⟨by omega, by omega, by omega, by omega⟩, z12, fun _ => h1⟩
theorem strP_nil (w : World) (p : Option Addr) : StrP w p [] := fun k z h => by simp at h

end Go.Proofs.YtmlmdljnfokebaaGreatDoor

/- Chapter 49: the contracts of the reference's join and Print. Bounded texts. -/
namespace Go.Proofs.YtmlmdljnfokebaaGreatDoor
open Go.RowKit

theorem xjoin_any (l : List ByteArray) (p : Option Addr) (c : Nat) (w : World) (hR : StrP w p l) (hl : l.length ≤ 1073741824) (hz : sumZ l ≤ 1073741824) :
    Calls Tryz.prog 47 #[.slice p l.length c] w fun e w' => e = .returned (.string (joinT 32 l)) ∧ K0 w w' := by
  have hjs : ∀ i, (joinT 32 (l.take i)).size ≤ 3221225472 := fun i => by
    have h1 := joinT_size 32 (l.take i)
    have h2 := sumZ_take l i
    have h3 : (l.take i).length ≤ l.length := by rw [List.length_take]; omega
    omega
  refine vc_xjoin p l.length c w _ ⟨fun vs w' => ∃ i : Nat, vs = [.int .i64 (i : Int), .string (joinT 32 (l.take i))] ∧ i ≤ l.length ∧ K0 w w',
    fun vs _ => (match vs with | .int _ x :: _ => l.length - x.toNat | _ => 0), ⟨0, rfl, by omega, .refl _ _⟩, ?_⟩
  rintro x y w1 ⟨i, hv, hi, k1⟩
  simp only [List.cons.injEq, Value.int.injEq, Value.string.injEq, true_and, and_true] at hv
  obtain ⟨rfl, rfl⟩ := hv
  have hj := hjs i
  refine bsp_intro (fun hlt => ?_) (fun hge => ?_)
  · have hlt : i < l.length := by simp at hlt; omega
    obtain ⟨z, bz, oz, hz1, hz2, hz3⟩ := str_get (hR.k0 k1) hlt
    have hzz : z.size ≤ 1073741824 := by
      have h1 := sumZ_take l (i + 1)
      rw [take_snoc hz1, sumZ_snoc] at h1
      omega
    have ht := take_snoc hz1
    rw [Int.toNat_natCast]
    refine bsp_intro (fun h0 => ?_) (fun h0 => ?_)
    · have h0 : 0 < i := by simp at h0; omega
      have hne : l.take i ≠ [] := fun e => by
        have : (l.take i).length = 0 := by rw [e]; rfl
        rw [List.length_take] at this; omega
      refine ⟨nneg (by rw [size_one]; omega), nn_is hz2 ⟨⟨by omega, by omega⟩, z, hz3, nneg (by rw [ByteArray.size_append, size_one]; omega), ⟨i + 1, by rw [inc64 (by omega), ht, joinT_snoc 32 hne], hlt, k1⟩, by rw [inc64 (by omega)]; simp only [Int.toNat_natCast]; omega⟩⟩
    · have h0 : i = 0 := by simp at h0; omega
      subst h0
      have e : joinT 32 (l.take 1) = joinT 32 (l.take 0) ++ z := by
        rw [ht]
        show z = ⟨#[]⟩ ++ z
        rw [nil_app]
      refine nn_is hz2 ⟨⟨by omega, by omega⟩, z, hz3, nneg (by omega), ⟨1, by rw [inc64 (by omega), e], hlt, k1⟩, by rw [inc64 (by omega)]; simp only [Int.toNat_natCast]; omega⟩
  · have hi : i = l.length := by simp at hge; omega
    subst hi
    rw [List.take_length]
    exact ⟨rfl, k1⟩
set_option maxHeartbeats 1000000 in
theorem xprint_any (m : Ml) (p : Option Addr) (c : Nat) (w : World) (hR : StrP w p m.hops) (hc : m.hops.length ≤ c) (hz : SzM m) (hb : m.bd.size ≤ 4611686018427387904) (hhl : m.hops.length ≤ 1099511627776) :
    Calls Tryz.prog 15 #[mxA m p c] w fun e w' => e = .returned (.tuple #[.string (prM m).1, .int .i64 (prM m).2]) ∧ K0 w w' := by
  refine vc_xprint m.fu m.fs m.tu m.ts m.n m.d m.sj p m.hops.length c m.bd w _ (fun n W hW => ?_)
  have kW : K0 w W := hW.kk rfl
  refine ⟨(xcheck_any m p c W (hR.k0 kW) hc ⟨hz.1, hz.2.2.1⟩ (by omega)).mono fun e w1 ⟨he, k1⟩ => ⟨_, he, .of_k0 k1, bsp_intro (fun h => ?_) (fun h => fun W2 hW2 => ?_)⟩⟩
  · have h : chkM m ≠ 0 := by simpa using h
    have e : prM m = (⟨#[]⟩, chkM m) := by unfold prM; rw [if_pos h]
    rw [e]; exact ⟨rfl, kW.trans k1⟩
  have h : chkM m = 0 := by simpa using h
  obtain ⟨z1, z2, z3, z4, z5, z6, z7, z8, z9, z10, z11, z12⟩ := chkM_bd h
  have k2 : K0 w1 W2 := hW2.kk rfl
  have hbk := hW2.cells 0 rfl
  have hbx : ∀ wx, K0 W2 wx → wx.heap[n]? = _ := fun wx k => k.blk hbk (fun h => h)
  refine ⟨fun wx => K0 W2 wx, .refl _ _, m.fu, m.fs, fun wx k => AtL_block (hbx wx k) rfl, m.tu, m.ts, fun wx k => AtL_block (hbx wx k) rfl, m.n, fun wx k => cell_at (hbx wx k) rfl, m.d, fun wx k => cell_at (hbx wx k) rfl, p, m.hops.length, c, fun wx k => cell_at (hbx wx k) rfl, m.sj, fun wx k => cell_at (hbx wx k) rfl, ?_⟩
  have k02 := (kW.trans k1).trans k2
  refine ⟨(xtext_any m.fu m.fs W2 (by omega) (by omega)).mono fun e w3 ⟨he, k3⟩ => ⟨_, he, k3, ?_⟩⟩
  refine ⟨(xtext_any m.tu m.ts w3 (by omega) (by omega)).mono fun e w4 ⟨he, k4⟩ => ⟨_, he, k3.trans k4, ?_⟩⟩
  have k24 := k3.trans k4
  refine ⟨(r1digits_any m.n w4 ⟨by omega, by omega⟩).mono fun e w5 ⟨he, k5⟩ => ⟨_, he, k24.trans k5, ?_⟩⟩
  have k25 := k24.trans k5
  refine ⟨(r1digits_any m.d w5 ⟨by omega, by omega⟩).mono fun e w6 ⟨he, k6⟩ => ⟨_, he, k25.trans k6, ?_⟩⟩
  have k26 := k25.trans k6
  have hR6 := (hR.k0 k02).k0 k26
  refine ⟨(xjoin_any m.hops p c w6 hR6 (by omega) (by omega)).mono fun e w7 ⟨he, k7⟩ => ⟨_, he, k26.trans k7, fun n8 w8 hn8 => ?_⟩⟩
  have k27 := k26.trans k7
  have k8 : K0 w7 w8 := hn8.kp _
  have hrow : RowA fC 2 w8 (some ⟨n8, 0, none⟩) (hdM m) := by
    intro k y hy
    refine ⟨n8, 0, rfl, AtL_block hn8.block ?_⟩
    match k, hy with
    | 0, hy => simp [hdM] at hy; subst hy; rfl
    | 1, hy => simp [hdM] at hy; subst hy; rfl
    | 2, hy => simp [hdM] at hy; subst hy; rfl
    | 3, hy => simp [hdM] at hy; subst hy; rfl
    | 4, hy => simp [hdM] at hy; subst hy; rfl
    | 5, hy => simp [hdM] at hy; subst hy; rfl
    | k + 6, hy => simp [hdM] at hy
  have hp := prM_ok h
  have hf := fpr_cat (hdM m) ⟨#[]⟩ (hd_chk h)
  have hs := hdT_size h
  have hs' : (catL (hdrL (hdM m))).size ≤ 4000 := hs
  rw [nil_app, if_neg (by omega)] at hf
  have hd1 := decI_size (x := m.n) ⟨by omega, by omega⟩
  have hd2 := decI_size (x := m.d) ⟨by omega, by omega⟩
  have hj := joinT_size 32 m.hops
  refine ⟨(r9print_any (hdM m) (some ⟨n8, 0, none⟩) 6 w8 hrow (by show 6 ≤ 64; omega) (fun x hx => ?_)).mono fun e w9 ⟨he, k9⟩ => ⟨_, _, he, .of_k0 ((k27.trans k8).trans k9), ?_⟩⟩
  · simp only [hdM, List.mem_cons, List.not_mem_nil, or_false] at hx
    rcases hx with rfl | rfl | rfl | rfl | rfl | rfl
    · exact ⟨by show 4 ≤ _; omega, by simp only [ByteArray.size_append, size_one]; omega⟩
    · exact ⟨by show 2 ≤ _; omega, by simp only [ByteArray.size_append, size_one]; omega⟩
    · exact ⟨by show 6 ≤ _; omega, by show (decI m.n).size ≤ _; omega⟩
    · exact ⟨by show 4 ≤ _; omega, by show (decI m.d).size ≤ _; omega⟩
    · exact ⟨by show 4 ≤ _; omega, by show (joinT 32 m.hops).size ≤ _; omega⟩
    · exact ⟨by show 7 ≤ _; omega, by show m.sj.size ≤ _; omega⟩
  · rw [hf, hp]
    show (9223372036854775807 - (((hdT m).size + 1 : Nat) : Int)).NonNeg ∧ _
    refine ⟨nneg (by omega), nneg (by rw [ByteArray.size_append, size_one]; show (hdT m).size + 1 + m.bd.size ≤ _; omega), rfl, ((k02.trans k27).trans k8).trans k9⟩

end Go.Proofs.YtmlmdljnfokebaaGreatDoor

/- Chapter 49: the contracts of the program's read and Parse. Bounded texts; the library's tables hold what they hold. -/
namespace Go.Proofs.YtmlmdljnfokebaaGreatDoor
open Go.RowKit

/-! ### Plain -/
theorem setL_mem {out : List Fd} {b : ByteArray} {x : Fd} (h : x ∈ setL out b) : x ∈ out ∨ x.2 = b := by
  unfold setL at h
  split at h
  · rcases List.mem_or_eq_of_mem_set h with h | h
    · exact .inl h
    · exact .inr (by rw [h])
  · exact .inl h
theorem bodyP_sz {l : ByteArray} {st : Nat} {out o : List Fd} (h : bodyP l st out = .inr o) (hz : ∀ x ∈ out, x.2.size ≤ 8192) : ∀ x ∈ o, x.2.size ≤ 8192 := by
  unfold bodyP at h
  split at h
  · cases h
  split at h
  · cases h
  rename_i h8
  cases h
  intro x hx
  rcases setL_mem hx with h | h
  · exact hz x h
  · rw [h]; omega
theorem lineP_sz {l : ByteArray} {out o : List Fd} (h : lineP l out = .inr o) (hz : ∀ x ∈ out, x.2.size ≤ 8192) : ∀ x ∈ o, x.2.size ≤ 8192 := by
  unfold lineP at h
  split at h
  · cases h
  split at h
  · cases h
  split at h
  · split at h
    · cases h
    · exact bodyP_sz h hz
  split at h
  · cases h
  split at h
  · cases h
  split at h
  · cases h
  refine bodyP_sz h fun x hx => ?_
  rcases List.mem_append.1 hx with hx | hx
  · exact hz x hx
  · simp only [List.mem_cons, List.not_mem_nil, or_false] at hx
    rw [hx]; exact Nat.zero_le _
theorem prsF_sz (s : ByteArray) : ∀ (f a : Nat) (out : List Fd), (∀ x ∈ out, x.2.size ≤ 8192) → ∀ x ∈ (prsF s f a out).1, x.2.size ≤ 8192
  | 0, _, out, h => h
  | f + 1, a, out, h => by
    unfold prsF
    split
    · split
      · intro x hx; cases hx
      · split
        · intro x hx; cases hx
        · rename_i o ho
          exact prsF_sz s f _ o (lineP_sz ho h)
    · exact h
theorem prs_sz (s : ByteArray) : ∀ x ∈ (prs s).1, x.2.size ≤ 8192 := by
  unfold prs
  split
  · intro x hx; cases hx
  · exact prsF_sz s _ _ _ (fun x hx => by cases hx)
theorem readM_len {l : List Fd} (h : ¬ l.length = 6) : readM l = none := by
  match l, h with
  | [], _ => rfl
  | [_], _ => rfl
  | [_, _], _ => rfl
  | [_, _, _], _ => rfl
  | [_, _, _, _], _ => rfl
  | [_, _, _, _, _], _ => rfl
  | [_, _, _, _, _, _], h => exact absurd rfl h
  | _ :: _ :: _ :: _ :: _ :: _ :: _ :: _, _ => rfl
theorem six {l : List Fd} (h : l.length = 6) : ∃ f0 f1 f2 f3 f4 f5, l = [f0, f1, f2, f3, f4, f5] := by
  match l, h with
  | [f0, f1, f2, f3, f4, f5], _ => exact ⟨f0, f1, f2, f3, f4, f5, rfl⟩
theorem readM_hops {l : List Fd} {m : Ml} (h : readM l = some m) (hz : ∀ x ∈ l, x.2.size ≤ 8192) : m.hops.length ≤ 8192 := by
  by_cases hl : l.length = 6
  · obtain ⟨f0, f1, f2, f3, f4, f5, rfl⟩ := six hl
    unfold readM at h
    simp only at h
    split at h
    · cases h
    · cases h
      have := (words_sizes f4.2).2
      have := hz f4 (by simp)
      show (words f4.2).length ≤ 8192
      omega
  · rw [readM_len hl] at h; cases h
theorem occ_nn {s : ByteArray} {i : Nat} : Lib.occAt s.data.toList [10, 10] i = true ↔ NN s i := by
  have h0 : (s.data.toList.drop i)[0]? = s.data.toList[i]? := by rw [List.getElem?_drop, Nat.add_zero]
  have h1 : (s.data.toList.drop i)[1]? = s.data.toList[i + 1]? := by rw [List.getElem?_drop]
  have g0 := getC 10 (s := s) (j := i)
  have g1 := getC 10 (s := s) (j := i + 1)
  rw [← h0] at g0
  rw [← h1] at g1
  have e10 : ((10 : UInt8).toNat : Int) = 10 := rfl
  rw [e10] at g0 g1
  unfold Lib.occAt NN
  cases hd : s.data.toList.drop i with
  | nil =>
    rw [hd] at g1
    refine ⟨fun h => (by cases h), fun ⟨a, _, b⟩ => ?_⟩
    have := g1.2 ⟨a, b⟩
    cases this
  | cons x r =>
    rw [hd] at g0 g1
    cases r with
    | nil =>
      refine ⟨fun h => (by simp [List.isPrefixOf] at h), fun ⟨a, _, b⟩ => ?_⟩
      have := g1.2 ⟨a, b⟩
      cases this
    | cons y r =>
      have f0 : x = 10 ↔ i < s.size ∧ at8 s i = 10 := by rw [← g0]; simp
      have f1 : y = 10 ↔ i + 1 < s.size ∧ at8 s (i + 1) = 10 := by rw [← g1]; simp
      have e : List.isPrefixOf [(10 : UInt8), 10] (x :: y :: r) = true ↔ x = 10 ∧ y = 10 := by
        simp only [List.isPrefixOf, Bool.and_true, Bool.and_eq_true, beq_iff_eq]
        exact ⟨fun h => ⟨h.1.symm, h.2.symm⟩, fun h => ⟨h.1.symm, h.2.symm⟩⟩
      rw [e, f0, f1]
      exact ⟨fun h => ⟨h.2.1, h.1.2, h.2.2⟩, fun h => ⟨⟨by omega, h.2.1⟩, h.1, h.2.2⟩⟩
theorem idx_nn (s : ByteArray) : Lib.index s.data.toList [10, 10] = if nnN s = s.size then (-1 : Int) else ((nnN s : Nat) : Int) := by
  have hl : s.data.toList.length = s.size := by simp
  rcases Lib.index_spec s.data.toList [10, 10] with ⟨h1, h2⟩ | ⟨i, h1, h2, h3, h4⟩
  · have : nnN s = s.size := nn_none fun i hi => by
      have := h2 i (by rw [hl]; have := hi.1; omega)
      rw [occ_nn.2 hi] at this; cases this
    rw [h1, if_pos this]
  · have hn := occ_nn.1 h3
    have : nnN s = i := nn_at hn fun j hj hnj => by
      have := h4 j hj
      rw [occ_nn.2 hnj] at this; cases this
    rw [h1, this, if_neg (by have := hn.1; omega)]

/-! ### The program's -/
set_option maxHeartbeats 2000000 in
theorem mread_any (l : List Fd) (p : Option Addr) (c : Nat) (w : World) (hR : RowA fC 2 w p l) (hz : ∀ x ∈ l, x.2.size ≤ 8192) (hG : GX w) :
    Calls Tryz.prog 33 #[.slice p l.length c] w fun e w' => (match readM l with
      | none => e = .returned (.tuple #[mxA mz none 0, .bool false])
      | some m => ∃ (q : Option Addr) (d : Nat), e = .returned (.tuple #[mxA m q d, .bool true]) ∧ w'.ownsRow w.heap.size 9 1 (.slice q m.hops.length d) m.hops.length (m.hops.map .string)) ∧ K0 w w' := by
  refine vc_mread p l.length c w _ (fun n1 => bsp_intro (fun h6 => fun W hW => ?_) (fun h6 => ?_))
  · have h6 : ¬ l.length = 6 := by intro e; rw [e] at h6; simp at h6
    rw [readM_len h6]
    exact ⟨rfl, hW.kk rfl⟩
  have h6 : l.length = 6 := by simp at h6; omega
  obtain ⟨f0, f1, f2, f3, f4, f5, rfl⟩ := six h6
  obtain ⟨b, o, hp, _⟩ := hR 0 f0 rfl
  have cell : ∀ (k : Nat) (y : Fd), [f0, f1, f2, f3, f4, f5][k]? = some y → w.cell? ⟨b, o + k * 2 + 1, none⟩ = some (.string y.2) := fun k y hy => by
    obtain ⟨b', o', hp', hat⟩ := hR k y hy
    rw [hp] at hp'
    cases hp'
    exact hat.cell (j := 1) rfl
  have c0 := cell 0 f0 rfl
  have c1 := cell 1 f1 rfl
  have c2 := cell 2 f2 rfl
  have c3 := cell 3 f3 rfl
  have c4 := cell 4 f4 rfl
  have c5 := cell 5 f5 rfl
  have z0 := hz f0 (by simp)
  have z1 := hz f1 (by simp)
  have z2 := hz f2 (by simp)
  have z3 := hz f3 (by simp)
  have z4 := hz f4 (by simp)
  have lt6 : ∀ k : Nat, k < 6 → (0 : Int) ≤ (k : Int) ∧ (k : Int) < (([f0, f1, f2, f3, f4, f5].length : Nat) : Int) := fun k hk => ⟨by omega, by show (k : Int) < ((6 : Nat) : Int); omega⟩
  have kp : ∀ {w' : World} {j : Nat} {y : ByteArray}, K0 w w' → w.cell? ⟨b, j, none⟩ = some (.string y) → w'.cell? ⟨b, j, none⟩ = some (.string y) := fun k h => k.cell' h (fun h => h)
  refine nn_is hp ⟨lt6 0 (by decide), f0.2, fun W hW => kp (hW.kk rfl) c0, fun W1 hW1 => ?_⟩
  have k1 : K0 w W1 := hW1.kk rfl
  refine ⟨(mparse_any f0.2 W1 (by omega) (hG.k0 k1)).mono fun e w2 ⟨he, k2⟩ => ⟨_, _, _, he, .of_k0 k2, fun n2 => nn_is hp ⟨lt6 1 (by decide), f1.2, fun W hW => kp ((k1.trans k2).trans (hW.kk rfl)) c1, fun W3 hW3 => ?_⟩⟩⟩
  have k13 : K0 w W3 := (k1.trans k2).trans (hW3.kk rfl)
  refine ⟨(mparse_any f1.2 W3 (by omega) (hG.k0 k13)).mono fun e w4 ⟨he, k4⟩ => ⟨_, _, _, he, .of_k0 k4, fun n3 => nn_is hp ⟨lt6 2 (by decide), f2.2, fun W hW => kp ((k13.trans k4).trans (hW.kk rfl)) c2, fun W5 hW5 => ?_⟩⟩⟩
  have k15 : K0 w W5 := (k13.trans k4).trans (hW5.kk rfl)
  refine ⟨(anum_any f2.2 2147483647 W5 (by omega) (by omega)).mono fun e w6 ⟨he, k6⟩ => ⟨_, _, he, .of_k0 k6, nn_is hp ⟨lt6 3 (by decide), f3.2, kp (k15.trans k6) c3, ?_⟩⟩⟩
  refine ⟨(anum_any f3.2 105190559 w6 (by omega) (by omega)).mono fun e w7 ⟨he, k7⟩ => ⟨_, _, he, .of_k0 k7, bsp_intro (fun hb => fun W hW => ?_) (fun hb => fun W8 hW8 => ?_)⟩⟩
  · simp only [Bool.or_eq_true, bne_iff_ne] at hb
    have hb' : (adrP f0.2).2 ≠ 0 ∨ (adrP f1.2).2 ≠ 0 ∨ (numR f2.2 2147483647).2 ≠ 0 ∨ (numR f3.2 105190559).2 ≠ 0 := by
      rcases hb with ((hb | hb) | hb) | hb
      · exact .inl hb
      · exact .inr (.inl hb)
      · exact .inr (.inr (.inl hb))
      · exact .inr (.inr (.inr hb))
    have hn : readM [f0, f1, f2, f3, f4, f5] = none := if_pos hb'
    rw [hn]
    exact ⟨rfl, hW.k0 ((k15.trans k6).trans k7)⟩
  simp only [Bool.or_eq_false_iff, bne_eq_false_iff_eq] at hb
  have hb' : ¬ ((adrP f0.2).2 ≠ 0 ∨ (adrP f1.2).2 ≠ 0 ∨ (numR f2.2 2147483647).2 ≠ 0 ∨ (numR f3.2 105190559).2 ≠ 0) := by
    rintro (h | h | h | h)
    · exact h hb.1.1.1
    · exact h hb.1.1.2
    · exact h hb.1.2
    · exact h hb.2
  have hs : readM [f0, f1, f2, f3, f4, f5] = some ⟨(adrP f0.2).1.1, (adrP f0.2).1.2, (adrP f1.2).1.1, (adrP f1.2).1.2, (numR f2.2 2147483647).1, (numR f3.2 105190559).1, f5.2, words f4.2, ⟨#[]⟩⟩ := if_neg hb'
  have k8 : K0 w7 W8 := hW8.kk rfl
  have k18 : K0 w W8 := ((k15.trans k6).trans k7).trans k8
  have b1 := hW8.cells 2 rfl
  have b2 := hW8.cells 1 rfl
  have b3 := hW8.cells 0 rfl
  have g1 : w.heap.size ≤ n1 := hW8.le 2 rfl
  refine ⟨fun wx => K0 W8 wx, .refl _ _, _, _, fun wx k => AtL_block (k.blk b2 (fun h => h)) rfl, _, _, fun wx k => AtL_block (k.blk b3 (fun h => h)) rfl, nn_is hp ⟨lt6 4 (by decide), f4.2, fun wx k => kp (k18.trans k) c4, nn_is hp ⟨lt6 5 (by decide), f5.2, fun wx k => kp (k18.trans k) c5, ?_⟩⟩⟩
  refine ⟨(words_any f4.2 W8 (by omega)).mono fun e w9 ⟨⟨q, d, he, ho⟩, k9⟩ => ⟨_, _, _, he, k9, WrL_block (k9.blk b1 (fun h => h)) (by show 0 + 9 ≤ 9; omega), fun w10 p10 => ?_⟩⟩
  have hb10 := p10.block (k9.blk b1 (fun h => h))
  have a12 : n1 ≠ n2 := fun e => by
    have := hW8.apart 2 1 rfl rfl (by decide)
    exact this e
  have a13 : n1 ≠ n3 := fun e => by
    have := hW8.apart 2 0 rfl rfl (by decide)
    exact this e
  refine ⟨.of_kp ((k9.mono fun _ _ h => h.elim).trans p10.kp) (fun y hy e => ?_), _, _, _, _, _, _, _, _, _, _, _, AtL_block hb10 rfl, ?_⟩
  · simp only [List.mem_cons, List.not_mem_nil, or_false] at hy
    rcases hy with rfl | rfl
    · exact a13 e.symm
    · exact a12 e.symm
  · rw [hs]
    have l1 := block_lt b1
    simp only at l1
    refine ⟨⟨q, d, rfl, own_base (owns_kp ho p10.kp (fun k hk e => ?_)) k18.size⟩, (k18.trans k9).fresh p10.kp (fun j hj e => by have e : j = n1 := e; omega)⟩
    have := own_ge ho hk
    have e : k = n1 := e
    omega
set_option maxHeartbeats 2000000 in
theorem mpar_any (s : ByteArray) (w : World) (hs : s.size ≤ 1000000) (hG : GX w) (hT : GT w) :
    Calls Tryz.prog 8 #[.string s] w fun e w' => (∃ (q : Option Addr) (d : Nat), e = .returned (.tuple #[mxA (mpP s).1 q d, .int .i64 (mpP s).2.1, .int .i64 (mpP s).2.2]) ∧ w'.ownsRow w.heap.size 9 1 (.slice q (mpP s).1.hops.length d) (mpP s).1.hops.length ((mpP s).1.hops.map .string)) ∧ K0 w w' := by
  refine vc_mpar s w _ (fun n W hW => ?_)
  have kW : K0 w W := hW.kk rfl
  obtain ⟨mm, hG1⟩ := hG.k0 kW
  have hzero : ∀ w' : World, w'.ownsRow w.heap.size 9 1 (.slice none (mz.hops).length 0) (mz.hops).length (mz.hops.map .string) := fun w' => ⟨rfl, .inl ⟨rfl, rfl⟩⟩
  refine ⟨(Tryz.strings_Index s ⟨#[10, 10]⟩ mm W (by omega) hG1).mono fun e w1 ⟨he, hw⟩ => ⟨_, he, ?_⟩⟩
  subst hw
  rw [show (⟨#[10, 10]⟩ : ByteArray).data.toList = [10, 10] from rfl, idx_nn]
  unfold mpP
  refine ⟨.refl _ _, ?_⟩
  by_cases h0 : nnN s = s.size
  · rw [if_pos h0]
    refine bsp_intro (fun _ => fun W2 hW2 => ?_) (fun h => by simp at h)
    rw [if_pos h0]
    exact ⟨⟨none, 0, rfl, hzero _⟩, hW2.k0 kW⟩
  have hlt := nn_lt h0
  rw [if_neg h0]
  refine bsp_intro (fun h => by simp at h; omega) (fun _ => ?_)
  rw [if_neg h0, inc64 (by omega), wr64 (x := ((nnN s : Nat) : Int) + 2) (by omega) (by omega), show ((nnN s : Nat) : Int) + 2 = ((nnN s + 2 : Nat) : Int) by omega, Int.toNat_natCast, Int.toNat_natCast]
  refine ⟨⟨by omega, by omega⟩, ⟨(fparse_any (s.extract 0 (nnN s + 1)) w1).mono fun e w2 ⟨⟨p, c, he, ho⟩, k2⟩ => ⟨_, _, _, _, _, he, .of_k0 k2, bsp_intro (fun hb => fun W3 hW3 => ?_) (fun hb => ?_)⟩⟩⟩
  · have hb : (prs (s.extract 0 (nnN s + 1))).2.2 ≠ 0 := by simpa using hb
    rw [if_pos hb]
    exact ⟨⟨none, 0, rfl, hzero _⟩, hW3.k0 (kW.trans k2)⟩
  have hb : ¬ (prs (s.extract 0 (nnN s + 1))).2.2 ≠ 0 := by simpa using hb
  rw [if_neg hb]
  have hsz := prs_sz (s.extract 0 (nnN s + 1))
  have hrow : RowA fC 2 w2 p (prs (s.extract 0 (nnN s + 1))).1 := RowA.own ho fC_len (by decide)
  have hrd := mread_any (prs (s.extract 0 (nnN s + 1))).1 p c w2 hrow hsz ((hG.k0 kW).k0 k2)
  have hhl := fun m => @readM_hops (prs (s.extract 0 (nnN s + 1))).1 m
  generalize (prs (s.extract 0 (nnN s + 1))).1 = l at *
  have k02 := kW.trans k2
  refine ⟨hrd.mono fun e w3 ⟨hQ, k3⟩ => ?_⟩
  have k03 := k02.trans k3
  cases hr : readM l with
  | none =>
    rw [hr] at hQ
    exact ⟨_, _, _, _, _, _, _, _, _, _, _, _, hQ, .of_k0 k3, fun n3 => bsp_intro (fun _ => fun W4 hW4 => ⟨⟨none, 0, rfl, hzero _⟩, hW4.k0 k03⟩) (fun h => by simp at h)⟩
  | some m =>
    rw [hr] at hQ
    obtain ⟨q, d, he, hoq⟩ := hQ
    have hh := hhl m hr hsz
    refine ⟨_, _, _, _, _, _, _, _, _, _, _, _, he, .of_k0 k3, fun n3 => bsp_intro (fun h => by simp at h) (fun _ => ⟨⟨by omega, by omega⟩, fun W4 hW4 => ?_⟩)⟩
    have k4 : K0 w3 W4 := hW4.kk rfl
    have k04 := k03.trans k4
    have hbz : (s.extract (nnN s + 2) s.size).size ≤ 1000000 := by rw [ByteArray.size_extract]; omega
    show CallsS _ _ #[mxA (bodyM m (s.extract (nnN s + 2) s.size)) q d] _ _
    have ho4 := owns_kp hoq k4 (fun _ _ h => h)
    refine ⟨(mprint_any (bodyM m (s.extract (nnN s + 2) s.size)) q d W4 (strP_own ho4) (own_le ho4) (by show (s.extract (nnN s + 2) s.size).size ≤ _; omega) (by show m.hops.length ≤ _; omega) (hT.k0 k04)).mono fun e w5 ⟨he, k5⟩ => ⟨_, _, he, .of_k0 k5, ?_⟩⟩
    have k05 := k04.trans k5
    unfold finM
    refine bsp_intro (fun h => fun W6 hW6 => ?_) (fun h => fun W6 hW6 => ?_)
    · have h : (prM (bodyM m (s.extract (nnN s + 2) s.size))).2 ≠ 0 ∨ (prM (bodyM m (s.extract (nnN s + 2) s.size))).1 ≠ s := by
        simp only [Bool.or_eq_true, bne_iff_ne, Bool.not_eq_true', beq_eq_false_iff_ne] at h
        rcases h with h | h
        · exact .inl h
        · exact .inr fun e => h (by rw [e])
      simp only
      rw [if_pos h]
      exact ⟨⟨none, 0, rfl, hzero _⟩, hW6.k0 k05⟩
    · have h : ¬ ((prM (bodyM m (s.extract (nnN s + 2) s.size))).2 ≠ 0 ∨ (prM (bodyM m (s.extract (nnN s + 2) s.size))).1 ≠ s) := by
        simp only [Bool.or_eq_false_iff, bne_eq_false_iff_eq, Bool.not_eq_false', beq_iff_eq] at h
        rintro (h2 | h2)
        · exact h2 h.1
        · exact h2 (str_eq h.2)
      simp only
      rw [if_neg h]
      refine ⟨⟨q, d, rfl, own_base (owns_kp (owns_kp ho4 k5 (fun _ _ h => h)) hW6.kp (fun k hk ⟨x, hx, hm, e⟩ => ?_)) k02.size⟩, hW6.k0 k05⟩
      have h1 := own_ge ho4 hk
      have h2 := block_lt (hW.cells 0 rfl)
      simp only at h2
      have h3 := k2.size
      simp only [List.mem_cons, List.not_mem_nil, or_false] at hx
      rcases hx with rfl | rfl
      · cases hm
      · have e : n = k := e
        omega

end Go.Proofs.YtmlmdljnfokebaaGreatDoor

/- The formulas of functions by the symbolic evaluator, and that each gives the call's contract. Written by a program (gen.py). No condition. -/
namespace Go.Proofs.YtmlmdljnfokebaaGreatDoor
set_option maxRecDepth 100000
set_option linter.unusedVariables false

def VC_r9parse (s : ByteArray) (w : World) (R : Ending → World → Prop) : Prop :=
 bsp (decide ((↑s.size : Int) > 65536))
 (R (Ending.returned (Value.tuple #[Value.slice none 0 0, Value.int IntKind.i64 65536, Value.int IntKind.i64 5])) w)
 (∃ (I : List Value → World → Prop),
 ∃ (m : List Value → World → Nat),
 I [Value.int IntKind.i64 0, Value.slice none 0 0] w ∧
 ∀ (x : Int) (p : Option Addr) (n c : Nat) (w' : World),
 I [Value.int IntKind.i64 x, Value.slice p n c] w' →
 bsp (decide (x < (↑s.size : Int)))
 (∃ (I_1 : List Value → World → Prop),
 ∃ (m_1 : List Value → World → Nat),
 I_1 [Value.int IntKind.i64 x] w' ∧
 ∀ (x_1 : Int) (w'_1 : World),
 I_1 [Value.int IntKind.i64 x_1] w'_1 →
 gimp (decide (x_1 < (↑s.size : Int))) (0 ≤ x_1 ∧ x_1 < (↑s.size : Int)) ∧
 bsp (decide (x_1 < (↑s.size : Int)) && at8 s x_1.toNat != 10)
 (I_1 [Value.int IntKind.i64 (IntKind.i64.wrap (x_1 + 1))] w'_1 ∧
 m_1 [Value.int IntKind.i64 (IntKind.i64.wrap (x_1 + 1))] w'_1 < m_1 [Value.int IntKind.i64 x_1] w'_1)
 (bsp (x_1 == (↑s.size : Int))
 (R
 (Ending.returned
 (Value.tuple #[Value.slice none 0 0, Value.int IntKind.i64 (↑s.size : Int), Value.int IntKind.i64 4]))
 w'_1)
 (bsp (decide (IntKind.i64.wrap (x_1 - x) > 998))
 (R
 (Ending.returned
 (Value.tuple
 #[Value.slice none 0 0, Value.int IntKind.i64 (IntKind.i64.wrap (x + 998)),
 Value.int IntKind.i64 5]))
 w'_1)
 (∃ (I_2 : List Value → World → Prop),
 ∃ (m_2 : List Value → World → Nat),
 I_2 [Value.int IntKind.i64 x, Value.int IntKind.i64 (-1)] w'_1 ∧
 ∀ (x_2 x_3 : Int) (w'_2 : World),
 I_2 [Value.int IntKind.i64 x_2, Value.int IntKind.i64 x_3] w'_2 →
 bsp (decide (x_2 < x_1))
 ((0 ≤ x_2 ∧ x_2 < (↑s.size : Int)) ∧
 gimp (!visB (at8 s x_2.toNat)) (0 ≤ x_2 ∧ x_2 < (↑s.size : Int)) ∧
 bsp (!visB (at8 s x_2.toNat) && !blankB (at8 s x_2.toNat))
 (R
 (Ending.returned
 (Value.tuple #[Value.slice none 0 0, Value.int IntKind.i64 x_2, Value.int IntKind.i64 6]))
 w'_2)
 ((0 ≤ x_2 ∧ x_2 < (↑s.size : Int)) ∧
 bsp (at8 s x_2.toNat == 58 && decide (x_3 < 0))
 (I_2 [Value.int IntKind.i64 (IntKind.i64.wrap (x_2 + 1)), Value.int IntKind.i64 x_2] w'_2 ∧
 m_2 [Value.int IntKind.i64 (IntKind.i64.wrap (x_2 + 1)), Value.int IntKind.i64 x_2] w'_2 <
 m_2 [Value.int IntKind.i64 x_2, Value.int IntKind.i64 x_3] w'_2)
 (I_2 [Value.int IntKind.i64 (IntKind.i64.wrap (x_2 + 1)), Value.int IntKind.i64 x_3] w'_2 ∧
 m_2 [Value.int IntKind.i64 (IntKind.i64.wrap (x_2 + 1)), Value.int IntKind.i64 x_3] w'_2 <
 m_2 [Value.int IntKind.i64 x_2, Value.int IntKind.i64 x_3] w'_2)))
 (gimp (decide (x < x_1)) (0 ≤ x ∧ x < (↑s.size : Int)) ∧
 bsp
 (decide (x < x_1) && blankB (at8 s x.toNat) && (↑n : Int) == 0 ||
 !(decide (x < x_1) && blankB (at8 s x.toNat)) && decide (x_3 < 0))
 (R
 (Ending.returned
 (Value.tuple #[Value.slice none 0 0, Value.int IntKind.i64 x, Value.int IntKind.i64 3]))
 w'_2)
 (bsp (!(decide (x < x_1) && blankB (at8 s x.toNat)))
 ((0 ≤ x ∧ x ≤ x_3 ∧ x_3 ≤ (↑s.size : Int)) ∧
 CallsS Tryz.prog 72 #[Value.string (s.extract x.toNat x_3.toNat)] w'_2
 fun (e : Ending) (w'_3 : World) =>
 ∃ (x_4 : Bool),
 e = Ending.returned (Value.bool x_4) ∧
 KeptL [] w'_2 w'_3 ∧
 bsp (!x_4)
 (R
 (Ending.returned
 (Value.tuple
 #[Value.slice none 0 0, Value.int IntKind.i64 x, Value.int IntKind.i64 12]))
 w'_3)
 (bsp ((↑n : Int) == 64)
 (R
 (Ending.returned
 (Value.tuple
 #[Value.slice none 0 0, Value.int IntKind.i64 x, Value.int IntKind.i64 9]))
 w'_3)
 ((0 ≤ x ∧ x ≤ x_3 ∧ x_3 ≤ (↑s.size : Int)) ∧
 ∀ (n_1 : Nat) (W : World),
 Loc w.heap.size
 [Blk.mk n_1 89
 [Value.string (s.extract x.toNat x_3.toNat), Value.string (ByteArray.mk #[])] 2]
 w'_3 W →
 ∃ (base : Nat),
 ∃ (xs : List Value),
 W.ownsRow base 89 2 (Value.slice p n c) n xs ∧
 n + 1 ≤ 9223372036854775807 ∧
 (n + 1) * 32 ≤ 140737488355328 ∧
 base ≤ W.heap.size ∧
 ∀ (p' : Option Addr) (c' : Nat) (w'_4 : World),
 w'_4.ownsRow base 89 2 (Value.slice p' (n + 1) c') (n + 1)
 (xs ++
 [Value.string (s.extract x.toNat x_3.toNat),
 Value.string (ByteArray.mk #[])]) →
 W.grownBy w'_4 (Value.slice p n c).ownBlock →
 (n + 1 ≤ c → p' = p ∧ c' = c) →
 KeptL [] W w'_4 ∧
 nn true p' fun (b o : Nat) =>
 (0 ≤ IntKind.i64.wrap ((↑(n + 1) : Int) - 1) ∧
 IntKind.i64.wrap ((↑(n + 1) : Int) - 1) < (↑(n + 1) : Int)) ∧
 ∃ (x_5 : ByteArray),
 w'_4.cell?
 (Addr.mk b
 (o + (IntKind.i64.wrap ((↑(n + 1) : Int) - 1)).toNat * 2 + 1)
 none) =
 some (Value.string x_5) ∧
 CallsS Tryz.prog 73
 #[Value.string x_5, Value.string s,
 Value.int IntKind.i64 (IntKind.i64.wrap (x_3 + 1)),
 Value.int IntKind.i64 x_1]
 w'_4 fun (e : Ending) (w'_5 : World) =>
 ∃ (x_6 : ByteArray),
 ∃ (x_7 : Int),
 e =
 Ending.returned
 (Value.tuple #[Value.string x_6, Value.int IntKind.i64 x_7]) ∧
 KeptL [] w'_4 w'_5 ∧
 bsp (decide (x_7 ≥ 0))
 (R
 (Ending.returned
 (Value.tuple
 #[Value.slice none 0 0, Value.int IntKind.i64 x_7,
 Value.int IntKind.i64 5]))
 w'_5)
 (bsp (decide ((↑x_6.size : Int) > 8192))
 (R
 (Ending.returned
 (Value.tuple
 #[Value.slice none 0 0, Value.int IntKind.i64 x,
 Value.int IntKind.i64 5]))
 w'_5)
 (nn true p' fun (b o : Nat) =>
 (0 ≤ IntKind.i64.wrap ((↑(n + 1) : Int) - 1) ∧
 IntKind.i64.wrap ((↑(n + 1) : Int) - 1) <
 (↑(n + 1) : Int)) ∧
 ((∃ (u : Value),
 w'_5.cell?
 (Addr.mk b
 (o +
 (IntKind.i64.wrap ((↑(n + 1) : Int) - 1)).toNat * 2 +
 1)
 none) =
 some u) ∧
 w'_5.frozen?
 (Addr.mk b
 (o +
 (IntKind.i64.wrap ((↑(n + 1) : Int) - 1)).toNat * 2 +
 1)
 none) =
 false) ∧
 ∀ (w1 : World),
 PutB w'_5 b
 (o +
 (IntKind.i64.wrap ((↑(n + 1) : Int) - 1)).toNat * 2 +
 1)
 [Value.string x_6] w1 →
 KeptL [] w'_5 w1 ∧
 I
 [Value.int IntKind.i64 (IntKind.i64.wrap (x_1 + 1)),
 Value.slice p' (n + 1) c']
 w1 ∧
 m
 [Value.int IntKind.i64 (IntKind.i64.wrap (x_1 + 1)),
 Value.slice p' (n + 1) c']
 w1 <
 m [Value.int IntKind.i64 x, Value.slice p n c] w')))))
 (nn true p fun (b o : Nat) =>
 (0 ≤ IntKind.i64.wrap ((↑n : Int) - 1) ∧ IntKind.i64.wrap ((↑n : Int) - 1) < (↑n : Int)) ∧
 ∃ (x_4 : ByteArray),
 w'_2.cell? (Addr.mk b (o + (IntKind.i64.wrap ((↑n : Int) - 1)).toNat * 2 + 1) none) =
 some (Value.string x_4) ∧
 CallsS Tryz.prog 73
 #[Value.string x_4, Value.string s, Value.int IntKind.i64 x, Value.int IntKind.i64 x_1]
 w'_2 fun (e : Ending) (w'_3 : World) =>
 ∃ (x_5 : ByteArray),
 ∃ (x_6 : Int),
 e = Ending.returned (Value.tuple #[Value.string x_5, Value.int IntKind.i64 x_6]) ∧
 KeptL [] w'_2 w'_3 ∧
 bsp (decide (x_6 ≥ 0))
 (R
 (Ending.returned
 (Value.tuple
 #[Value.slice none 0 0, Value.int IntKind.i64 x_6, Value.int IntKind.i64 5]))
 w'_3)
 (bsp (decide ((↑x_5.size : Int) > 8192))
 (R
 (Ending.returned
 (Value.tuple
 #[Value.slice none 0 0, Value.int IntKind.i64 x, Value.int IntKind.i64 5]))
 w'_3)
 (nn true p fun (b o : Nat) =>
 (0 ≤ IntKind.i64.wrap ((↑n : Int) - 1) ∧
 IntKind.i64.wrap ((↑n : Int) - 1) < (↑n : Int)) ∧
 ((∃ (u : Value),
 w'_3.cell?
 (Addr.mk b (o + (IntKind.i64.wrap ((↑n : Int) - 1)).toNat * 2 + 1) none) =
 some u) ∧
 w'_3.frozen?
 (Addr.mk b (o + (IntKind.i64.wrap ((↑n : Int) - 1)).toNat * 2 + 1) none) =
 false) ∧
 ∀ (w1 : World),
 PutB w'_3 b (o + (IntKind.i64.wrap ((↑n : Int) - 1)).toNat * 2 + 1)
 [Value.string x_5] w1 →
 KeptL [] w'_3 w1 ∧
 I [Value.int IntKind.i64 (IntKind.i64.wrap (x_1 + 1)), Value.slice p n c] w1 ∧
 m [Value.int IntKind.i64 (IntKind.i64.wrap (x_1 + 1)), Value.slice p n c]
 w1 <
 m [Value.int IntKind.i64 x, Value.slice p n c] w')))))))))
 (R (Ending.returned (Value.tuple #[Value.slice p n c, Value.int IntKind.i64 0, Value.int IntKind.i64 0])) w'))
theorem vc_r9parse (s : ByteArray) (w : World) (R : Ending → World → Prop) (h : VC_r9parse s w R) : Calls Tryz.prog 34 ([Value.string
    s] : List Value).toArray w R := by
  have e : execR2 { P := Tryz.prog, loops := [(5, [(6, Ck.int IntKind.i64), (5, Ck.slice)]), (7, [(7, Ck.int IntKind.i64)]), (15, [(9, Ck.int IntKind.i64), (8, Ck.int IntKind.i64)])], pur := purM, tails := [], joins := [], boxes := [] } Tryz.f34.results.toList R (Tryz.f34.body.getD .skip) (initF [Value.string
    s] (Tryz.f34.ntmps - ([Value.string s] : List Value).length)) w = VC_r9parse s w R := by kernel_rfl
  have hb : Tryz.f34.body = some (Tryz.f34.body.getD .skip) := by kernel_rfl
  exact calls_of_exec2' (P := Tryz.prog) (fn := Tryz.f34) (c := Tryz.f34.body.getD .skip) (args := [Value.string
    s]) (w := w) (R := R) purM_ok Tryz.func34 hb e h

def VC_xparse (s : ByteArray) (w : World) (R : Ending → World → Prop) : Prop :=
 ∀ (n : Nat) (W : World),
 Loc w.heap.size
 [Blk.mk n 32
 [Value.string (ByteArray.mk #[]), Value.string (ByteArray.mk #[]), Value.string (ByteArray.mk #[]),
 Value.string (ByteArray.mk #[]), Value.int IntKind.i64 0, Value.int IntKind.i64 0,
 Value.string (ByteArray.mk #[]), Value.slice none 0 0, Value.string (ByteArray.mk #[])]
 2]
 w W →
 ∃ (I : List Value → World → Prop),
 ∃ (m : List Value → World → Nat),
 I [Value.int IntKind.i64 0, Value.int IntKind.i64 (-1)] W ∧
 ∀ (x x_1 : Int) (w' : World),
 I [Value.int IntKind.i64 x, Value.int IntKind.i64 x_1] w' →
 Loc w.heap.size
 [Blk.mk n 32
 [Value.string (ByteArray.mk #[]), Value.string (ByteArray.mk #[]), Value.string (ByteArray.mk #[]),
 Value.string (ByteArray.mk #[]), Value.int IntKind.i64 0, Value.int IntKind.i64 0,
 Value.string (ByteArray.mk #[]), Value.slice none 0 0, Value.string (ByteArray.mk #[])]
 0]
 w' w' →
 bsp (decide (IntKind.i64.wrap (x + 1) < (↑s.size : Int)) && decide (x_1 < 0))
 ((0 ≤ x ∧ x < (↑s.size : Int)) ∧
 gimp (at8 s x.toNat == 10) (0 ≤ IntKind.i64.wrap (x + 1) ∧ IntKind.i64.wrap (x + 1) < (↑s.size : Int)) ∧
 bsp (at8 s x.toNat == 10 && at8 s (IntKind.i64.wrap (x + 1)).toNat == 10)
 (I [Value.int IntKind.i64 (IntKind.i64.wrap (x + 1)), Value.int IntKind.i64 x] w' ∧
 m [Value.int IntKind.i64 (IntKind.i64.wrap (x + 1)), Value.int IntKind.i64 x] w' <
 m [Value.int IntKind.i64 x, Value.int IntKind.i64 x_1] w')
 (I [Value.int IntKind.i64 (IntKind.i64.wrap (x + 1)), Value.int IntKind.i64 x_1] w' ∧
 m [Value.int IntKind.i64 (IntKind.i64.wrap (x + 1)), Value.int IntKind.i64 x_1] w' <
 m [Value.int IntKind.i64 x, Value.int IntKind.i64 x_1] w'))
 (bsp (decide (x_1 < 0))
 (∀ (W : World),
 Loc w.heap.size
 [Blk.mk n 32
 [Value.string (ByteArray.mk #[]), Value.string (ByteArray.mk #[]), Value.string (ByteArray.mk #[]),
 Value.string (ByteArray.mk #[]), Value.int IntKind.i64 0, Value.int IntKind.i64 0,
 Value.string (ByteArray.mk #[]), Value.slice none 0 0, Value.string (ByteArray.mk #[])]
 (wrM 0)]
 w' W →
 R
 (Ending.returned
 (Value.tuple
 #[Value.agg
 #[Value.string (ByteArray.mk #[]), Value.string (ByteArray.mk #[]), Value.string (ByteArray.mk #[]),
 Value.string (ByteArray.mk #[]), Value.int IntKind.i64 0, Value.int IntKind.i64 0,
 Value.string (ByteArray.mk #[]), Value.slice none 0 0, Value.string (ByteArray.mk #[])],
 Value.int IntKind.i64 (↑s.size : Int), Value.int IntKind.i64 4]))
 W)
 ((0 ≤ IntKind.i64.wrap (x_1 + 1) ∧ IntKind.i64.wrap (x_1 + 1) ≤ (↑s.size : Int)) ∧
 CallsS Tryz.prog 34 #[Value.string (s.extract 0 (IntKind.i64.wrap (x_1 + 1)).toNat)] w'
 fun (e : Ending) (w'_1 : World) =>
 ∃ (p : Option Addr),
 ∃ (n_1 : Nat),
 ∃ (c : Nat),
 ∃ (x : Int),
 ∃ (x_2 : Int),
 e =
 Ending.returned
 (Value.tuple #[Value.slice p n_1 c, Value.int IntKind.i64 x, Value.int IntKind.i64 x_2]) ∧
 KeptL [n] w' w'_1 ∧
 bsp (x_2 != 0)
 (∀ (W : World),
 Loc w.heap.size
 [Blk.mk n 32
 [Value.string (ByteArray.mk #[]), Value.string (ByteArray.mk #[]),
 Value.string (ByteArray.mk #[]), Value.string (ByteArray.mk #[]), Value.int IntKind.i64 0,
 Value.int IntKind.i64 0, Value.string (ByteArray.mk #[]), Value.slice none 0 0,
 Value.string (ByteArray.mk #[])]
 (wrM 0)]
 w'_1 W →
 R
 (Ending.returned
 (Value.tuple
 #[Value.agg
 #[Value.string (ByteArray.mk #[]), Value.string (ByteArray.mk #[]),
 Value.string (ByteArray.mk #[]), Value.string (ByteArray.mk #[]), Value.int IntKind.i64 0,
 Value.int IntKind.i64 0, Value.string (ByteArray.mk #[]), Value.slice none 0 0,
 Value.string (ByteArray.mk #[])],
 Value.int IntKind.i64 x, Value.int IntKind.i64 x_2]))
 W)
 (bsp ((↑n_1 : Int) != 6)
 (∀ (W : World),
 Loc w.heap.size
 [Blk.mk n 32
 [Value.string (ByteArray.mk #[]), Value.string (ByteArray.mk #[]),
 Value.string (ByteArray.mk #[]), Value.string (ByteArray.mk #[]), Value.int IntKind.i64 0,
 Value.int IntKind.i64 0, Value.string (ByteArray.mk #[]), Value.slice none 0 0,
 Value.string (ByteArray.mk #[])]
 (wrM 0)]
 w'_1 W →
 R
 (Ending.returned
 (Value.tuple
 #[Value.agg
 #[Value.string (ByteArray.mk #[]), Value.string (ByteArray.mk #[]),
 Value.string (ByteArray.mk #[]), Value.string (ByteArray.mk #[]), Value.int IntKind.i64 0,
 Value.int IntKind.i64 0, Value.string (ByteArray.mk #[]), Value.slice none 0 0,
 Value.string (ByteArray.mk #[])],
 Value.int IntKind.i64 0, Value.int IntKind.i64 3]))
 W)
 (∀ (n_2 : Nat),
 nn true p fun (b o : Nat) =>
 ((0 : Int) ≤ 0 ∧ 0 < (↑n_1 : Int)) ∧
 ∃ (x : ByteArray),
 (∀ (W : World),
 Loc w.heap.size
 [Blk.mk n_2 32
 [Value.string (ByteArray.mk #[]), Value.string (ByteArray.mk #[]),
 Value.string (ByteArray.mk #[]), Value.string (ByteArray.mk #[]),
 Value.int IntKind.i64 0, Value.int IntKind.i64 0, Value.string (ByteArray.mk #[]),
 Value.slice none 0 0, Value.string (ByteArray.mk #[])]
 2,
 Blk.mk n 32
 [Value.string (ByteArray.mk #[]), Value.string (ByteArray.mk #[]),
 Value.string (ByteArray.mk #[]), Value.string (ByteArray.mk #[]),
 Value.int IntKind.i64 0, Value.int IntKind.i64 0, Value.string (ByteArray.mk #[]),
 Value.slice none 0 0, Value.string (ByteArray.mk #[])]
 0]
 w'_1 W →
 W.cell? (Addr.mk b (o + 1) none) = some (Value.string x)) ∧
 ∀ (W : World),
 Loc w.heap.size
 [Blk.mk n_2 32
 [Value.string (ByteArray.mk #[]), Value.string (ByteArray.mk #[]),
 Value.string (ByteArray.mk #[]), Value.string (ByteArray.mk #[]),
 Value.int IntKind.i64 0, Value.int IntKind.i64 0, Value.string (ByteArray.mk #[]),
 Value.slice none 0 0, Value.string (ByteArray.mk #[])]
 2,
 Blk.mk n 32
 [Value.string (ByteArray.mk #[]), Value.string (ByteArray.mk #[]),
 Value.string (ByteArray.mk #[]), Value.string (ByteArray.mk #[]),
 Value.int IntKind.i64 0, Value.int IntKind.i64 0, Value.string (ByteArray.mk #[]),
 Value.slice none 0 0, Value.string (ByteArray.mk #[])]
 0]
 w'_1 W →
 CallsS Tryz.prog 35 #[Value.string x] W fun (e : Ending) (w' : World) =>
 ∃ (x : ByteArray),
 ∃ (x_3 : ByteArray),
 ∃ (x_4 : Int),
 e =
 Ending.returned
 (Value.tuple
 #[Value.agg #[Value.string x, Value.string x_3], Value.int IntKind.i64 x_4]) ∧
 KeptL [n_2, n] W w' ∧
 nn true p fun (b o : Nat) =>
 ((0 : Int) ≤ 1 ∧ 1 < (↑n_1 : Int)) ∧
 ∃ (x_5 : ByteArray),
 (∀ (W : World),
 Loc w.heap.size
 [Blk.mk n_2 32
 [Value.string x, Value.string x_3, Value.string (ByteArray.mk #[]),
 Value.string (ByteArray.mk #[]), Value.int IntKind.i64 0,
 Value.int IntKind.i64 0, Value.string (ByteArray.mk #[]),
 Value.slice none 0 0, Value.string (ByteArray.mk #[])]
 (wrM 0),
 Blk.mk n 32
 [Value.string (ByteArray.mk #[]), Value.string (ByteArray.mk #[]),
 Value.string (ByteArray.mk #[]), Value.string (ByteArray.mk #[]),
 Value.int IntKind.i64 0, Value.int IntKind.i64 0,
 Value.string (ByteArray.mk #[]), Value.slice none 0 0,
 Value.string (ByteArray.mk #[])]
 0]
 w' W →
 W.cell? (Addr.mk b (o + 3) none) = some (Value.string x_5)) ∧
 ∀ (W : World),
 Loc w.heap.size
 [Blk.mk n_2 32
 [Value.string x, Value.string x_3, Value.string (ByteArray.mk #[]),
 Value.string (ByteArray.mk #[]), Value.int IntKind.i64 0,
 Value.int IntKind.i64 0, Value.string (ByteArray.mk #[]),
 Value.slice none 0 0, Value.string (ByteArray.mk #[])]
 (wrM 0),
 Blk.mk n 32
 [Value.string (ByteArray.mk #[]), Value.string (ByteArray.mk #[]),
 Value.string (ByteArray.mk #[]), Value.string (ByteArray.mk #[]),
 Value.int IntKind.i64 0, Value.int IntKind.i64 0,
 Value.string (ByteArray.mk #[]), Value.slice none 0 0,
 Value.string (ByteArray.mk #[])]
 0]
 w' W →
 CallsS Tryz.prog 35 #[Value.string x_5] W fun (e : Ending) (w' : World) =>
 ∃ (x_6 : ByteArray),
 ∃ (x_7 : ByteArray),
 ∃ (x_8 : Int),
 e =
 Ending.returned
 (Value.tuple
 #[Value.agg #[Value.string x_6, Value.string x_7],
 Value.int IntKind.i64 x_8]) ∧
 KeptL [n_2, n] W w' ∧
 nn true p fun (b o : Nat) =>
 ((0 : Int) ≤ 2 ∧ 2 < (↑n_1 : Int)) ∧
 ∃ (x_9 : ByteArray),
 (∀ (W : World),
 Loc w.heap.size
 [Blk.mk n_2 32
 [Value.string x, Value.string x_3, Value.string x_6,
 Value.string x_7, Value.int IntKind.i64 0,
 Value.int IntKind.i64 0, Value.string (ByteArray.mk #[]),
 Value.slice none 0 0, Value.string (ByteArray.mk #[])]
 (wrM 0),
 Blk.mk n 32
 [Value.string (ByteArray.mk #[]),
 Value.string (ByteArray.mk #[]),
 Value.string (ByteArray.mk #[]),
 Value.string (ByteArray.mk #[]), Value.int IntKind.i64 0,
 Value.int IntKind.i64 0, Value.string (ByteArray.mk #[]),
 Value.slice none 0 0, Value.string (ByteArray.mk #[])]
 0]
 w' W →
 W.cell? (Addr.mk b (o + 5) none) = some (Value.string x_9)) ∧
 ∀ (W : World),
 Loc w.heap.size
 [Blk.mk n_2 32
 [Value.string x, Value.string x_3, Value.string x_6,
 Value.string x_7, Value.int IntKind.i64 0,
 Value.int IntKind.i64 0, Value.string (ByteArray.mk #[]),
 Value.slice none 0 0, Value.string (ByteArray.mk #[])]
 (wrM 0),
 Blk.mk n 32
 [Value.string (ByteArray.mk #[]),
 Value.string (ByteArray.mk #[]),
 Value.string (ByteArray.mk #[]),
 Value.string (ByteArray.mk #[]), Value.int IntKind.i64 0,
 Value.int IntKind.i64 0, Value.string (ByteArray.mk #[]),
 Value.slice none 0 0, Value.string (ByteArray.mk #[])]
 0]
 w' W →
 CallsS Tryz.prog 36
 #[Value.string x_9, Value.int IntKind.i64 2147483647] W
 fun (e : Ending) (w' : World) =>
 ∃ (x_10 : Int),
 ∃ (x_11 : Int),
 e =
 Ending.returned
 (Value.tuple
 #[Value.int IntKind.i64 x_10, Value.int IntKind.i64 x_11]) ∧
 KeptL [n_2, n] W w' ∧
 nn true p fun (b o : Nat) =>
 ((0 : Int) ≤ 3 ∧ 3 < (↑n_1 : Int)) ∧
 ∃ (x_12 : ByteArray),
 (∀ (W : World),
 Loc w.heap.size
 [Blk.mk n_2 32
 [Value.string x, Value.string x_3, Value.string x_6,
 Value.string x_7, Value.int IntKind.i64 x_10,
 Value.int IntKind.i64 0,
 Value.string (ByteArray.mk #[]),
 Value.slice none 0 0,
 Value.string (ByteArray.mk #[])]
 (wrM 0),
 Blk.mk n 32
 [Value.string (ByteArray.mk #[]),
 Value.string (ByteArray.mk #[]),
 Value.string (ByteArray.mk #[]),
 Value.string (ByteArray.mk #[]),
 Value.int IntKind.i64 0, Value.int IntKind.i64 0,
 Value.string (ByteArray.mk #[]),
 Value.slice none 0 0,
 Value.string (ByteArray.mk #[])]
 0]
 w' W →
 W.cell? (Addr.mk b (o + 7) none) =
 some (Value.string x_12)) ∧
 ∀ (W : World),
 Loc w.heap.size
 [Blk.mk n_2 32
 [Value.string x, Value.string x_3, Value.string x_6,
 Value.string x_7, Value.int IntKind.i64 x_10,
 Value.int IntKind.i64 0,
 Value.string (ByteArray.mk #[]),
 Value.slice none 0 0,
 Value.string (ByteArray.mk #[])]
 (wrM 0),
 Blk.mk n 32
 [Value.string (ByteArray.mk #[]),
 Value.string (ByteArray.mk #[]),
 Value.string (ByteArray.mk #[]),
 Value.string (ByteArray.mk #[]),
 Value.int IntKind.i64 0, Value.int IntKind.i64 0,
 Value.string (ByteArray.mk #[]),
 Value.slice none 0 0,
 Value.string (ByteArray.mk #[])]
 0]
 w' W →
 CallsS Tryz.prog 36
 #[Value.string x_12, Value.int IntKind.i64 105190559] W
 fun (e : Ending) (w' : World) =>
 ∃ (x_13 : Int),
 ∃ (x_14 : Int),
 e =
 Ending.returned
 (Value.tuple
 #[Value.int IntKind.i64 x_13,
 Value.int IntKind.i64 x_14]) ∧
 KeptL [n_2, n] W w' ∧
 nn true p fun (b o : Nat) =>
 ((0 : Int) ≤ 4 ∧ 4 < (↑n_1 : Int)) ∧
 ∃ (x_15 : ByteArray),
 (∀ (W : World),
 Loc w.heap.size
 [Blk.mk n_2 32
 [Value.string x, Value.string x_3,
 Value.string x_6, Value.string x_7,
 Value.int IntKind.i64 x_10,
 Value.int IntKind.i64 x_13,
 Value.string (ByteArray.mk #[]),
 Value.slice none 0 0,
 Value.string (ByteArray.mk #[])]
 (wrM 0),
 Blk.mk n 32
 [Value.string (ByteArray.mk #[]),
 Value.string (ByteArray.mk #[]),
 Value.string (ByteArray.mk #[]),
 Value.string (ByteArray.mk #[]),
 Value.int IntKind.i64 0,
 Value.int IntKind.i64 0,
 Value.string (ByteArray.mk #[]),
 Value.slice none 0 0,
 Value.string (ByteArray.mk #[])]
 0]
 w' W →
 W.cell? (Addr.mk b (o + 9) none) =
 some (Value.string x_15)) ∧
 ∀ (W : World),
 Loc w.heap.size
 [Blk.mk n_2 32
 [Value.string x, Value.string x_3,
 Value.string x_6, Value.string x_7,
 Value.int IntKind.i64 x_10,
 Value.int IntKind.i64 x_13,
 Value.string (ByteArray.mk #[]),
 Value.slice none 0 0,
 Value.string (ByteArray.mk #[])]
 (wrM 0),
 Blk.mk n 32
 [Value.string (ByteArray.mk #[]),
 Value.string (ByteArray.mk #[]),
 Value.string (ByteArray.mk #[]),
 Value.string (ByteArray.mk #[]),
 Value.int IntKind.i64 0,
 Value.int IntKind.i64 0,
 Value.string (ByteArray.mk #[]),
 Value.slice none 0 0,
 Value.string (ByteArray.mk #[])]
 0]
 w' W →
 CallsS Tryz.prog 37 #[Value.string x_15] W
 fun (e : Ending) (w' : World) =>
 ∃ (p_1 : Option Addr),
 ∃ (n_3 : Nat),
 ∃ (c : Nat),
 e =
 Ending.returned
 (Value.slice p_1 n_3 c) ∧
 KeptL [n_2, n] W w' ∧
 nn true p fun (b o : Nat) =>
 ((0 : Int) ≤ 5 ∧ 5 < (↑n_1 : Int)) ∧
 ∃ (x_16 : ByteArray),
 (∀ (W : World),
 Loc w.heap.size
 [Blk.mk n_2 32
 [Value.string x,
 Value.string x_3,
 Value.string x_6,
 Value.string x_7,
 Value.int IntKind.i64 x_10,
 Value.int IntKind.i64 x_13,
 Value.string
 (ByteArray.mk #[]),
 Value.slice p_1 n_3 c,
 Value.string
 (ByteArray.mk #[])]
 (wrM 0),
 Blk.mk n 32
 [Value.string
 (ByteArray.mk #[]),
 Value.string
 (ByteArray.mk #[]),
 Value.string
 (ByteArray.mk #[]),
 Value.string
 (ByteArray.mk #[]),
 Value.int IntKind.i64 0,
 Value.int IntKind.i64 0,
 Value.string
 (ByteArray.mk #[]),
 Value.slice none 0 0,
 Value.string
 (ByteArray.mk #[])]
 0]
 w' W →
 W.cell?
 (Addr.mk b (o + 11) none) =
 some (Value.string x_16)) ∧
 (0 ≤ IntKind.i64.wrap (x_1 + 2) ∧
 IntKind.i64.wrap (x_1 + 2) ≤
 (↑s.size : Int)) ∧
 ∀ (W : World),
 Loc w.heap.size
 [Blk.mk n_2 32
 [Value.string x,
 Value.string x_3,
 Value.string x_6,
 Value.string x_7,
 Value.int IntKind.i64 x_10,
 Value.int IntKind.i64 x_13,
 Value.string x_16,
 Value.slice p_1 n_3 c,
 Value.string
 (s.extract
 (IntKind.i64.wrap
 (x_1 + 2)).toNat
 s.size)]
 (wrM (wrM (wrM 0))),
 Blk.mk n 32
 [Value.string
 (ByteArray.mk #[]),
 Value.string
 (ByteArray.mk #[]),
 Value.string
 (ByteArray.mk #[]),
 Value.string
 (ByteArray.mk #[]),
 Value.int IntKind.i64 0,
 Value.int IntKind.i64 0,
 Value.string
 (ByteArray.mk #[]),
 Value.slice none 0 0,
 Value.string
 (ByteArray.mk #[])]
 0]
 w' W →
 CallsS Tryz.prog 15
 #[Value.agg
 #[Value.string x,
 Value.string x_3,
 Value.string x_6,
 Value.string x_7,
 Value.int IntKind.i64 x_10,
 Value.int IntKind.i64 x_13,
 Value.string x_16,
 Value.slice p_1 n_3 c,
 Value.string
 (s.extract
 (IntKind.i64.wrap
 (x_1 + 2)).toNat
 s.size)]]
 W
 fun (e : Ending) (w' : World) =>
 ∃ (x_17 : ByteArray),
 ∃ (x_18 : Int),
 e =
 Ending.returned
 (Value.tuple
 #[Value.string x_17,
 Value.int IntKind.i64
 x_18]) ∧
 KeptL [n_2, n] W w' ∧
 bsp
 (x_18 != 0 ||
 !x_17.toList == s.toList)
 (∀ (W : World),
 Loc w.heap.size
 [Blk.mk n_2 32
 [Value.string x,
 Value.string x_3,
 Value.string x_6,
 Value.string x_7,
 Value.int IntKind.i64
 x_10,
 Value.int IntKind.i64
 x_13,
 Value.string x_16,
 Value.slice p_1 n_3
 c,
 Value.string
 (s.extract
 (IntKind.i64.wrap
 (x_1 + 2)).toNat
 s.size)]
 0,
 Blk.mk n 32
 [Value.string
 (ByteArray.mk #[]),
 Value.string
 (ByteArray.mk #[]),
 Value.string
 (ByteArray.mk #[]),
 Value.string
 (ByteArray.mk #[]),
 Value.int IntKind.i64
 0,
 Value.int IntKind.i64
 0,
 Value.string
 (ByteArray.mk #[]),
 Value.slice none 0 0,
 Value.string
 (ByteArray.mk #[])]
 (wrM 0)]
 w' W →
 R
 (Ending.returned
 (Value.tuple
 #[Value.agg
 #[Value.string
 (ByteArray.mk
 #[]),
 Value.string
 (ByteArray.mk
 #[]),
 Value.string
 (ByteArray.mk
 #[]),
 Value.string
 (ByteArray.mk
 #[]),
 Value.int
 IntKind.i64 0,
 Value.int
 IntKind.i64 0,
 Value.string
 (ByteArray.mk
 #[]),
 Value.slice none 0
 0,
 Value.string
 (ByteArray.mk
 #[])],
 Value.int IntKind.i64
 0,
 Value.int IntKind.i64
 3]))
 W)
 (∀ (W : World),
 Loc w.heap.size
 [Blk.mk n_2 32
 [Value.string x,
 Value.string x_3,
 Value.string x_6,
 Value.string x_7,
 Value.int IntKind.i64
 x_10,
 Value.int IntKind.i64
 x_13,
 Value.string x_16,
 Value.slice p_1 n_3
 c,
 Value.string
 (s.extract
 (IntKind.i64.wrap
 (x_1 + 2)).toNat
 s.size)]
 0,
 Blk.mk n 32
 [Value.string x,
 Value.string x_3,
 Value.string x_6,
 Value.string x_7,
 Value.int IntKind.i64
 x_10,
 Value.int IntKind.i64
 x_13,
 Value.string x_16,
 Value.slice p_1 n_3
 c,
 Value.string
 (s.extract
 (IntKind.i64.wrap
 (x_1 + 2)).toNat
 s.size)]
 (wrM 0)]
 w' W →
 R
 (Ending.returned
 (Value.tuple
 #[Value.agg
 #[Value.string x,
 Value.string x_3,
 Value.string x_6,
 Value.string x_7,
 Value.int
 IntKind.i64 x_10,
 Value.int
 IntKind.i64 x_13,
 Value.string x_16,
 Value.slice p_1 n_3
 c,
 Value.string
 (s.extract
 (IntKind.i64.wrap
 (x_1 +
 2)).toNat
 s.size)],
 Value.int IntKind.i64
 0,
 Value.int IntKind.i64
 0]))
 W)))))
theorem vc_xparse (s : ByteArray) (w : World) (R : Ending → World → Prop) (h : VC_xparse s w R) : Calls Tryz.prog 9 ([Value.string
    s] : List Value).toArray w R := by
  have e : execR2 { P := Tryz.prog, loops := [(3, [(6, Ck.int IntKind.i64), (5, Ck.int IntKind.i64)])], pur := purM, tails := [], joins := [], boxes := [] } Tryz.f9.results.toList R (Tryz.f9.body.getD .skip) (initF [Value.string
    s] (Tryz.f9.ntmps - ([Value.string s] : List Value).length)) w = VC_xparse s w R := by kernel_rfl
  have hb : Tryz.f9.body = some (Tryz.f9.body.getD .skip) := by kernel_rfl
  exact calls_of_exec2' (P := Tryz.prog) (fn := Tryz.f9) (c := Tryz.f9.body.getD .skip) (args := [Value.string
    s]) (w := w) (R := R) purM_ok Tryz.func9 hb e h

def VC_lprints (fu : ByteArray) (fs : ByteArray) (tu : ByteArray) (ts : ByteArray) (n : Int) (d : Int) (sj : ByteArray) (hp : Option Addr) (hn : Nat) (hc : Nat) (bd : ByteArray) (w : World) (R : Ending → World → Prop) : Prop :=
 ∀ (n_1 : Nat) (W : World),
 Loc w.heap.size
 [Blk.mk n_1 32
 [Value.string fu, Value.string fs, Value.string tu, Value.string ts, Value.int IntKind.i64 n,
 Value.int IntKind.i64 d, Value.string sj, Value.slice hp hn hc, Value.string bd]
 2]
 w W →
 CallsS Tryz.prog 14
 #[Value.agg
 #[Value.string fu, Value.string fs, Value.string tu, Value.string ts, Value.int IntKind.i64 n,
 Value.int IntKind.i64 d, Value.string sj, Value.slice hp hn hc, Value.string bd]]
 W fun (e : Ending) (w' : World) =>
 ∃ (x : ByteArray),
 ∃ (x_1 : ByteArray),
 ∃ (x_2 : ByteArray),
 ∃ (x_3 : ByteArray),
 ∃ (x_4 : Int),
 ∃ (x_5 : Int),
 ∃ (x_6 : ByteArray),
 ∃ (p : Option Addr),
 ∃ (n_2 : Nat),
 ∃ (c : Nat),
 ∃ (x_7 : ByteArray),
 e =
 Ending.returned
 (Value.agg
 #[Value.string x, Value.string x_1, Value.string x_2, Value.string x_3, Value.int IntKind.i64 x_4,
 Value.int IntKind.i64 x_5, Value.string x_6, Value.slice p n_2 c, Value.string x_7]) ∧
 KeptL [n_1] W w' ∧
 ∀ (n_3 : Nat) (W : World),
 Loc w.heap.size
 [Blk.mk n_3 26
 [Value.string x, Value.string x_1, Value.string x_2, Value.string x_3, Value.int IntKind.i64 x_4,
 Value.int IntKind.i64 x_5, Value.string x_6, Value.slice p n_2 c, Value.string x_7]
 (wrM 2),
 Blk.mk n_1 32
 [Value.string fu, Value.string fs, Value.string tu, Value.string ts, Value.int IntKind.i64 n,
 Value.int IntKind.i64 d, Value.string sj, Value.slice hp hn hc, Value.string bd]
 0]
 w' W →
 CallsS Tryz.prog 12
 #[Value.agg
 #[Value.string x, Value.string x_1, Value.string x_2, Value.string x_3, Value.int IntKind.i64 x_4,
 Value.int IntKind.i64 x_5, Value.string x_6, Value.slice p n_2 c, Value.string x_7]]
 W fun (e : Ending) (w' : World) =>
 ∃ (x_8 : ByteArray),
 ∃ (x_9 : Int),
 e = Ending.returned (Value.tuple #[Value.string x_8, Value.int IntKind.i64 x_9]) ∧
 KeptL [n_3, n_1] W w' ∧
 CallsS Tryz.prog 11
 #[Value.agg
 #[Value.string x, Value.string x_1, Value.string x_2, Value.string x_3,
 Value.int IntKind.i64 x_4, Value.int IntKind.i64 x_5, Value.string x_6, Value.slice p n_2 c,
 Value.string x_7]]
 w' fun (e : Ending) (w'_1 : World) =>
 ∃ (x_10 : ByteArray),
 ∃ (x_11 : ByteArray),
 ∃ (x_12 : ByteArray),
 ∃ (x_13 : ByteArray),
 ∃ (x_14 : Int),
 ∃ (x_15 : Int),
 ∃ (x_16 : ByteArray),
 ∃ (p_1 : Option Addr),
 ∃ (n_4 : Nat),
 ∃ (c_1 : Nat),
 ∃ (x_17 : ByteArray),
 e =
 Ending.returned
 (Value.agg
 #[Value.string x_10, Value.string x_11, Value.string x_12, Value.string x_13,
 Value.int IntKind.i64 x_14, Value.int IntKind.i64 x_15, Value.string x_16,
 Value.slice p_1 n_4 c_1, Value.string x_17]) ∧
 KeptL [n_3, n_1] w' w'_1 ∧
 CallsS Tryz.prog 15
 #[Value.agg
 #[Value.string x_10, Value.string x_11, Value.string x_12, Value.string x_13,
 Value.int IntKind.i64 x_14, Value.int IntKind.i64 x_15, Value.string x_16,
 Value.slice p_1 n_4 c_1, Value.string x_17]]
 w'_1 fun (e : Ending) (w' : World) =>
 ∃ (x_18 : ByteArray),
 ∃ (x_19 : Int),
 e =
 Ending.returned
 (Value.tuple #[Value.string x_18, Value.int IntKind.i64 x_19]) ∧
 KeptL [n_3, n_1] w'_1 w' ∧
 bsp (!x_8.toList == x_18.toList || x_9 != x_19)
 (R (Ending.returned (Value.bool false)) w')
 (bsp (x_9 != 0)
 (CallsS Tryz.prog 13 #[] w' fun (e : Ending) (w'_2 : World) =>
 ∃ (x : Bool),
 e = Ending.returned (Value.bool x) ∧
 KeptL [n_3, n_1] w' w'_2 ∧ R (Ending.returned (Value.bool x)) w'_2)
 (CallsS Tryz.prog 8 #[Value.string x_8] w'
 fun (e : Ending) (w'_2 : World) =>
 ∃ (x_20 : ByteArray),
 ∃ (x_21 : ByteArray),
 ∃ (x_22 : ByteArray),
 ∃ (x_23 : ByteArray),
 ∃ (x_24 : Int),
 ∃ (x_25 : Int),
 ∃ (x_26 : ByteArray),
 ∃ (p_2 : Option Addr),
 ∃ (n_5 : Nat),
 ∃ (c_2 : Nat),
 ∃ (x_27 : ByteArray),
 ∃ (x_28 : Int),
 ∃ (x_29 : Int),
 e =
 Ending.returned
 (Value.tuple
 #[Value.agg
 #[Value.string x_20, Value.string x_21,
 Value.string x_22, Value.string x_23,
 Value.int IntKind.i64 x_24, Value.int IntKind.i64 x_25,
 Value.string x_26, Value.slice p_2 n_5 c_2,
 Value.string x_27],
 Value.int IntKind.i64 x_28,
 Value.int IntKind.i64 x_29]) ∧
 KeptL [n_3, n_1] w' w'_2 ∧
 ∀ (n_6 : Nat) (W : World),
 Loc w.heap.size
 [Blk.mk n_6 26
 [Value.string x_20, Value.string x_21,
 Value.string x_22, Value.string x_23,
 Value.int IntKind.i64 x_24,
 Value.int IntKind.i64 x_25, Value.string x_26,
 Value.slice p_2 n_5 c_2, Value.string x_27]
 (wrM 2),
 Blk.mk n_3 26
 [Value.string x, Value.string x_1, Value.string x_2,
 Value.string x_3, Value.int IntKind.i64 x_4,
 Value.int IntKind.i64 x_5, Value.string x_6,
 Value.slice p n_2 c, Value.string x_7]
 0,
 Blk.mk n_1 32
 [Value.string fu, Value.string fs, Value.string tu,
 Value.string ts, Value.int IntKind.i64 n,
 Value.int IntKind.i64 d, Value.string sj,
 Value.slice hp hn hc, Value.string bd]
 0]
 w'_2 W →
 CallsS Tryz.prog 13 #[] W fun (e : Ending) (w' : World) =>
 ∃ (x_30 : Bool),
 e = Ending.returned (Value.bool x_30) ∧
 KeptL [n_6, n_3, n_1] W w' ∧
 bsp (x_30 && x_29 == 0 && x_28 == 0)
 (CallsS Tryz.prog 16
 #[Value.agg
 #[Value.string x, Value.string x_1,
 Value.string x_2, Value.string x_3,
 Value.int IntKind.i64 x_4,
 Value.int IntKind.i64 x_5, Value.string x_6,
 Value.slice p n_2 c, Value.string x_7],
 Value.agg
 #[Value.string x_20, Value.string x_21,
 Value.string x_22, Value.string x_23,
 Value.int IntKind.i64 x_24,
 Value.int IntKind.i64 x_25, Value.string x_26,
 Value.slice p_2 n_5 c_2, Value.string x_27]]
 w' fun (e : Ending) (w'_3 : World) =>
 ∃ (x : Bool),
 e = Ending.returned (Value.bool x) ∧
 KeptL [n_6, n_3, n_1] w' w'_3 ∧
 R (Ending.returned (Value.bool (true && x)))
 w'_3)
 (KeptL [n_6, n_3, n_1] w' w' ∧
 R (Ending.returned (Value.bool false)) w')))
theorem vc_lprints (fu : ByteArray) (fs : ByteArray) (tu : ByteArray) (ts : ByteArray) (n : Int) (d : Int) (sj : ByteArray) (hp : Option Addr) (hn : Nat) (hc : Nat) (bd : ByteArray) (w : World) (R : Ending → World → Prop) (h : VC_lprints fu fs tu ts n d sj hp hn hc bd w R) : Calls Tryz.prog 4 ([Value.agg
    #[Value.string fu, Value.string fs, Value.string tu, Value.string ts, Value.int IntKind.i64 n,
      Value.int IntKind.i64 d, Value.string sj, Value.slice hp hn hc, Value.string bd]] : List Value).toArray w R := by
  have e : execR2 { P := Tryz.prog, loops := [], pur := purM, tails := [], joins := [], boxes := [] } Tryz.f4.results.toList R (Tryz.f4.body.getD .skip) (initF [Value.agg
    #[Value.string fu, Value.string fs, Value.string tu, Value.string ts, Value.int IntKind.i64 n,
      Value.int IntKind.i64 d, Value.string sj, Value.slice hp hn hc,
      Value.string
        bd]] (Tryz.f4.ntmps - ([Value.agg
    #[Value.string fu, Value.string fs, Value.string tu, Value.string ts, Value.int IntKind.i64 n,
      Value.int IntKind.i64 d, Value.string sj, Value.slice hp hn hc,
      Value.string bd]] : List Value).length)) w = VC_lprints fu fs tu ts n d sj hp hn hc bd w R := by kernel_rfl
  have hb : Tryz.f4.body = some (Tryz.f4.body.getD .skip) := by kernel_rfl
  exact calls_of_exec2' (P := Tryz.prog) (fn := Tryz.f4) (c := Tryz.f4.body.getD .skip) (args := [Value.agg
    #[Value.string fu, Value.string fs, Value.string tu, Value.string ts, Value.int IntKind.i64 n,
      Value.int IntKind.i64 d, Value.string sj, Value.slice hp hn hc,
      Value.string bd]]) (w := w) (R := R) purM_ok Tryz.func4 hb e h

def VC_lparses (s : ByteArray) (w : World) (R : Ending → World → Prop) : Prop :=
 ((0 ≤ if 40000 < (↑s.size : Int) then 40000 else (↑s.size : Int)) ∧
 (if 40000 < (↑s.size : Int) then 40000 else (↑s.size : Int)) ≤ (↑s.size : Int)) ∧
 CallsS Tryz.prog 8 #[Value.string (s.extract 0 (if 40000 < (↑s.size : Int) then 40000 else (↑s.size : Int)).toNat)] w
 fun (e : Ending) (w' : World) =>
 ∃ (x : ByteArray),
 ∃ (x_1 : ByteArray),
 ∃ (x_2 : ByteArray),
 ∃ (x_3 : ByteArray),
 ∃ (x_4 : Int),
 ∃ (x_5 : Int),
 ∃ (x_6 : ByteArray),
 ∃ (p : Option Addr),
 ∃ (n : Nat),
 ∃ (c : Nat),
 ∃ (x_7 : ByteArray),
 ∃ (x_8 : Int),
 ∃ (x_9 : Int),
 e =
 Ending.returned
 (Value.tuple
 #[Value.agg
 #[Value.string x, Value.string x_1, Value.string x_2, Value.string x_3, Value.int IntKind.i64 x_4,
 Value.int IntKind.i64 x_5, Value.string x_6, Value.slice p n c, Value.string x_7],
 Value.int IntKind.i64 x_8, Value.int IntKind.i64 x_9]) ∧
 KeptL [] w w' ∧
 ∀ (n_1 : Nat) (W : World),
 Loc w.heap.size
 [Blk.mk n_1 26
 [Value.string x, Value.string x_1, Value.string x_2, Value.string x_3, Value.int IntKind.i64 x_4,
 Value.int IntKind.i64 x_5, Value.string x_6, Value.slice p n c, Value.string x_7]
 (wrM 2)]
 w' W →
 CallsS Tryz.prog 9
 #[Value.string (s.extract 0 (if 40000 < (↑s.size : Int) then 40000 else (↑s.size : Int)).toNat)] W
 fun (e : Ending) (w' : World) =>
 ∃ (x_10 : ByteArray),
 ∃ (x_11 : ByteArray),
 ∃ (x_12 : ByteArray),
 ∃ (x_13 : ByteArray),
 ∃ (x_14 : Int),
 ∃ (x_15 : Int),
 ∃ (x_16 : ByteArray),
 ∃ (p_1 : Option Addr),
 ∃ (n_2 : Nat),
 ∃ (c_1 : Nat),
 ∃ (x_17 : ByteArray),
 ∃ (x_18 : Int),
 ∃ (x_19 : Int),
 e =
 Ending.returned
 (Value.tuple
 #[Value.agg
 #[Value.string x_10, Value.string x_11, Value.string x_12, Value.string x_13,
 Value.int IntKind.i64 x_14, Value.int IntKind.i64 x_15, Value.string x_16,
 Value.slice p_1 n_2 c_1, Value.string x_17],
 Value.int IntKind.i64 x_18, Value.int IntKind.i64 x_19]) ∧
 KeptL [n_1] W w' ∧
 ∀ (n_3 : Nat) (W : World),
 Loc w.heap.size
 [Blk.mk n_3 32
 [Value.string x_10, Value.string x_11, Value.string x_12, Value.string x_13,
 Value.int IntKind.i64 x_14, Value.int IntKind.i64 x_15, Value.string x_16,
 Value.slice p_1 n_2 c_1, Value.string x_17]
 (wrM 2),
 Blk.mk n_1 26
 [Value.string x, Value.string x_1, Value.string x_2, Value.string x_3,
 Value.int IntKind.i64 x_4, Value.int IntKind.i64 x_5, Value.string x_6,
 Value.slice p n c, Value.string x_7]
 0]
 w' W →
 ∃ (S : World → Prop),
 S W ∧
 ∃ (x_20 : ByteArray),
 ∃ (x_21 : ByteArray),
 ∃ (x_22 : ByteArray),
 ∃ (x_23 : ByteArray),
 ∃ (x_24 : Int),
 ∃ (x_25 : Int),
 ∃ (x_26 : ByteArray),
 ∃ (p_2 : Option Addr),
 ∃ (n_4 : Nat),
 ∃ (c_2 : Nat),
 ∃ (x_27 : ByteArray),
 gimp (!(x_8 != x_18 || x_9 != x_19))
 (∀ (w' : World),
 S w' →
 AtL w' n_1 0
 [Value.string x_20, Value.string x_21, Value.string x_22,
 Value.string x_23, Value.int IntKind.i64 x_24,
 Value.int IntKind.i64 x_25, Value.string x_26,
 Value.slice p_2 n_4 c_2, Value.string x_27]) ∧
 ∃ (x_28 : ByteArray),
 ∃ (x_29 : ByteArray),
 ∃ (x_30 : ByteArray),
 ∃ (x_31 : ByteArray),
 ∃ (x_32 : Int),
 ∃ (x_33 : Int),
 ∃ (x_34 : ByteArray),
 ∃ (p_3 : Option Addr),
 ∃ (n_5 : Nat),
 ∃ (c_3 : Nat),
 ∃ (x_35 : ByteArray),
 gimp (!(x_8 != x_18 || x_9 != x_19))
 (∀ (w' : World),
 S w' →
 AtL w' n_3 0
 [Value.string x_28, Value.string x_29,
 Value.string x_30, Value.string x_31,
 Value.int IntKind.i64 x_32,
 Value.int IntKind.i64 x_33, Value.string x_34,
 Value.slice p_3 n_5 c_3, Value.string x_35]) ∧
 bsp (!(x_8 != x_18 || x_9 != x_19))
 (CallsS Tryz.prog 11
 #[Value.agg
 #[Value.string x_20, Value.string x_21,
 Value.string x_22, Value.string x_23,
 Value.int IntKind.i64 x_24,
 Value.int IntKind.i64 x_25, Value.string x_26,
 Value.slice p_2 n_4 c_2, Value.string x_27]]
 W fun (e : Ending) (w' : World) =>
 ∃ (x_36 : ByteArray),
 ∃ (x_37 : ByteArray),
 ∃ (x_38 : ByteArray),
 ∃ (x_39 : ByteArray),
 ∃ (x_40 : Int),
 ∃ (x_41 : Int),
 ∃ (x_42 : ByteArray),
 ∃ (p_4 : Option Addr),
 ∃ (n_6 : Nat),
 ∃ (c_4 : Nat),
 ∃ (x_43 : ByteArray),
 e =
 Ending.returned
 (Value.agg
 #[Value.string x_36, Value.string x_37,
 Value.string x_38, Value.string x_39,
 Value.int IntKind.i64 x_40,
 Value.int IntKind.i64 x_41,
 Value.string x_42,
 Value.slice p_4 n_6 c_4,
 Value.string x_43]) ∧
 S w' ∧
 CallsS Tryz.prog 10
 #[Value.agg
 #[Value.string x_36, Value.string x_37,
 Value.string x_38, Value.string x_39,
 Value.int IntKind.i64 x_40,
 Value.int IntKind.i64 x_41,
 Value.string x_42,
 Value.slice p_4 n_6 c_4,
 Value.string x_43],
 Value.agg
 #[Value.string x_28, Value.string x_29,
 Value.string x_30, Value.string x_31,
 Value.int IntKind.i64 x_32,
 Value.int IntKind.i64 x_33,
 Value.string x_34,
 Value.slice p_3 n_5 c_3,
 Value.string x_35]]
 w' fun (e : Ending) (w' : World) =>
 ∃ (x_44 : Bool),
 e = Ending.returned (Value.bool x_44) ∧
 KeptL [n_3, n_1] W w' ∧
 bsp (false || !x_44)
 (R
 (Ending.returned (Value.bool false))
 w')
 (CallsS Tryz.prog 12
 #[Value.agg
 #[Value.string x,
 Value.string x_1,
 Value.string x_2,
 Value.string x_3,
 Value.int IntKind.i64 x_4,
 Value.int IntKind.i64 x_5,
 Value.string x_6,
 Value.slice p n c,
 Value.string x_7]]
 w'
 fun (e : Ending) (w'_1 : World) =>
 ∃ (x : ByteArray),
 ∃ (x_45 : Int),
 e =
 Ending.returned
 (Value.tuple
 #[Value.string x,
 Value.int IntKind.i64
 x_45]) ∧
 KeptL [n_3, n_1] w' w'_1 ∧
 CallsS Tryz.prog 13 #[] w'_1
 fun (e : Ending)
 (w' : World) =>
 ∃ (x_46 : Bool),
 e =
 Ending.returned
 (Value.bool x_46) ∧
 KeptL [n_3, n_1] w'_1 w' ∧
 R
 (Ending.returned
 (Value.bool
 (x_46 &&
 (x_9 != 0 ||
 x.toList ==
 (s.extract 0
 (if
 40000 <
 (↑s.size :
 Int) then
 40000
 else
 (↑s.size :
 Int)).toNat).toList &&
 x_45 == 0))))
 w'))
 (S W ∧
 KeptL [n_3, n_1] W W ∧
 R (Ending.returned (Value.bool false)) W)
theorem vc_lparses (s : ByteArray) (w : World) (R : Ending → World → Prop) (h : VC_lparses s w R) : Calls Tryz.prog 3 ([Value.string
    s] : List Value).toArray w R := by
  have e : execR2 { P := Tryz.prog, loops := [], pur := purM, tails := [(4, 10)], joins := [], boxes := [] } Tryz.f3.results.toList R (Tryz.f3.body.getD .skip) (initF [Value.string
    s] (Tryz.f3.ntmps - ([Value.string s] : List Value).length)) w = VC_lparses s w R := by kernel_rfl
  have hb : Tryz.f3.body = some (Tryz.f3.body.getD .skip) := by kernel_rfl
  exact calls_of_exec2' (P := Tryz.prog) (fn := Tryz.f3) (c := Tryz.f3.body.getD .skip) (args := [Value.string
    s]) (w := w) (R := R) purM_ok Tryz.func3 hb e h

end Go.Proofs.YtmlmdljnfokebaaGreatDoor

/- Chapter 49: the contract of the reference's header.Parse. No condition but sizes. -/
namespace Go.Proofs.YtmlmdljnfokebaaGreatDoor
open Go.RowKit

/-- The last field's body in an own row. -/
theorem own_last {w : World} {B : Nat} {e : TypeId} {p : Option Addr} {n c : Nat} {out : List Fd} (h : w.ownsRow B e 2 (.slice p n c) n (out.flatMap fC)) (hn : out.length = n) (h0 : 0 < n) :
    ∃ g, p = some ⟨g, 0, none⟩ ∧ B ≤ g ∧ g < w.heap.size ∧ w.cell? ⟨g, 0 + (n - 1) * 2 + 1, none⟩ = some (.string (lastB out)) ∧ ((∃ u, w.cell? ⟨g, 0 + (n - 1) * 2 + 1, none⟩ = some u) ∧ w.frozen? ⟨g, 0 + (n - 1) * 2 + 1, none⟩ = false) ∧
      ∀ (x : ByteArray) (w1 : World), PutB w g (0 + (n - 1) * 2 + 1) [.string x] w1 → w1.ownsRow B e 2 (.slice p n c) n ((setL out x).flatMap fC) := by
  subst hn
  have hl : (out.flatMap fC).length = out.length * 2 := len_flat fC 2 out (fun y _ => fC_len y)
  have e : 0 + (out.length - 1) * 2 + 1 = 2 * (out.length - 1) + 1 := by omega
  rw [e]
  obtain ⟨g, hp, hg, hw, hs⟩ := own_putL h (k := 2 * (out.length - 1) + 1) (by omega)
  obtain ⟨g', hp', hc⟩ := own_cellL h (flat_lastB h0)
  rw [hp] at hp'
  cases hp'
  refine ⟨g, hp, own_ge h hg, own_lt h hg, hc, hw, fun x w1 hpt => ?_⟩
  rw [flat_setL h0]
  exact hs _ _ hpt
set_option maxHeartbeats 4000000 in
theorem r9parse_any (s : ByteArray) (w : World) :
    Calls Tryz.prog 34 #[.string s] w fun e w' => (∃ (p : Option Addr) (c : Nat), e = .returned (.tuple #[.slice p (prs s).1.length c, .int .i64 (prs s).2.1, .int .i64 (prs s).2.2]) ∧ w'.ownsRow w.heap.size 89 2 (.slice p (prs s).1.length c) (prs s).1.length ((prs s).1.flatMap fC)) ∧ K0 w w' := by
  refine vc_r9parse s w _ (bsp_intro (fun hbig => ?_) (fun hbig => ?_))
  · have hbig : 65536 < s.size := by simp at hbig; omega
    have e : prs s = ([], 65536, 5) := by unfold prs; rw [if_pos hbig]
    rw [e]
    exact ⟨⟨none, 0, rfl, rfl, .inl ⟨rfl, rfl⟩⟩, .refl _ _⟩
  have hs : s.size ≤ 65536 := by simp at hbig; omega
  have e0 : prs s = prsR s 0 [] := by unfold prs; rw [if_neg (by omega)]; rfl
  rw [e0]
  generalize hG : prsR s 0 [] = G
  let R : Ending → World → Prop := fun e w' => (∃ (p : Option Addr) (c : Nat), e = .returned (.tuple #[.slice p G.1.length c, .int .i64 G.2.1, .int .i64 G.2.2]) ∧ w'.ownsRow w.heap.size 89 2 (.slice p G.1.length c) G.1.length (G.1.flatMap fC)) ∧ K0 w w'
  have errR : ∀ (w' : World) (x er : Int), K0 w w' → G = ([], x, er) → R (.returned (.tuple #[.slice none 0 0, .int .i64 x, .int .i64 er])) w' := fun w' x er k e => by
    show (∃ (p : Option Addr) (c : Nat), _ ∧ _) ∧ _
    rw [e]
    exact ⟨⟨none, 0, rfl, rfl, .inl ⟨rfl, rfl⟩⟩, k⟩
  let Inv : List Value → World → Prop := fun vs w' => ∃ (a : Nat) (p : Option Addr) (c : Nat) (out : List Fd), vs = [.int .i64 (a : Int), .slice p out.length c] ∧ a ≤ s.size ∧ prsR s a out = G ∧ out.length ≤ 64 ∧ (lastB out).size ≤ 8192 ∧ w'.ownsRow w.heap.size 89 2 (.slice p out.length c) out.length (out.flatMap fC) ∧ K0 w w'
  let ms : List Value → World → Nat := fun vs _ => (match vs with | .int _ x :: _ => s.size - x.toNat | _ => 0)
  refine ⟨Inv, ms, ⟨0, none, 0, [], rfl, Nat.zero_le _, hG, by decide, by decide, ⟨rfl, .inl ⟨rfl, rfl⟩⟩, .refl _ _⟩, ?_⟩
  rintro x p n c w1 ⟨a, p', c', out, hv, ha, hR, hol, hlb, hrow, k1⟩
  simp only [List.cons.injEq, Value.int.injEq, Value.slice.injEq, true_and, and_true] at hv
  obtain ⟨rfl, rfl, rfl, rfl⟩ := hv
  refine bsp_intro (fun hlt => ?_) (fun hge => ?_)
  · have hlt : a < s.size := by simp at hlt; omega
    have hstep := prsR_step (s := s) (out := out) hlt
    rw [hR] at hstep
    refine ⟨fun vs w' => ∃ t : Nat, vs = [.int .i64 (t : Int)] ∧ a ≤ t ∧ t ≤ s.size ∧ (∀ j, a ≤ j → j < t → notNl (at8 s j) = true) ∧ w' = w1,
      fun vs _ => (match vs with | .int _ x :: _ => s.size - x.toNat | _ => 0), ⟨a, rfl, Nat.le_refl _, ha, (fun j h1 h2 => by omega), rfl⟩, ?_⟩
    rintro x w2 ⟨t, hv, hat, ht, hall, rfl⟩
    simp only [List.cons.injEq, Value.int.injEq, true_and, and_true] at hv
    subst hv
    rw [Int.toNat_natCast, Int.toNat_natCast]
    refine ⟨gimp_intro fun h => ⟨by omega, by simp at h; omega⟩, bsp_intro (fun hc => ?_) (fun hc => ?_)⟩
    · simp only [Bool.and_eq_true, decide_eq_true_eq] at hc
      refine ⟨⟨t + 1, by rw [inc64 (by omega)], by omega, by omega, fun j h1 h2 => ?_, rfl⟩, by rw [inc64 (by omega)]; simp only [Int.toNat_natCast]; omega⟩
      by_cases e : j = t
      · rw [e]; exact hc.2
      · exact hall j h1 (by omega)
    have hnl : nlN s a = t := (skipN_to notNl s (i := a) (by omega)).uniq ⟨hat, ht, hall, fun h => by
      have e : decide ((t : Int) < (s.size : Int)) = true := decide_eq_true (by omega)
      rw [e] at hc
      simpa [notNl] using hc⟩
    rw [hnl] at hstep
    refine bsp_intro (fun hend => ?_) (fun hend => ?_)
    · have hend : t = s.size := by simp at hend; omega
      rw [if_pos hend] at hstep
      exact errR _ _ _ k1 hstep
    have hend : ¬ t = s.size := by intro e; subst e; simp at hend
    rw [if_neg hend] at hstep
    have hll : (s.extract a t).size = t - a := by rw [ByteArray.size_extract]; omega
    have hat8 : ∀ j, j < t - a → at8 (s.extract a t) j = at8 s (a + j) := fun j hj => at8_extract s a t j (by omega) ht
    have hext : ∀ k, k ≤ t - a → s.extract a (a + k) = (s.extract a t).extract 0 k := fun k h2 => by
      rw [ByteArray.extract_extract]; congr 1; omega
    have hadd : ∀ (b : ByteArray) (st : Nat) (w3 : World), st ≤ (s.extract a t).size → b.size ≤ 1073741824 → _ := fun b st w3 h1 h2 => r9add_any b s a t st w3 hat ht h1 hs h2
    generalize s.extract a t = l at *
    rw [wr64 (x := (t : Int) - (a : Int)) (by omega) (by omega)]
    refine bsp_intro (fun h9 => ?_) (fun h9 => ?_)
    · have h9 : 998 < l.size := by simp at h9; omega
      have e : lineP l out = .inl (998, 5) := by unfold lineP; rw [if_pos h9]
      rw [e] at hstep
      rw [wr64 (x := (a : Int) + 998) (by omega) (by omega), show (a : Int) + 998 = ((a + 998 : Nat) : Int) by omega]
      exact errR _ _ _ k1 hstep
    have h9 : ¬ 998 < l.size := by simp at h9; omega
    have hlin : lineP l out = if skipN okB l 0 < l.size then .inl (skipN okB l 0, 6) else if contB l = true then (if out.length = 0 then .inl (0, 3) else bodyP l 0 out) else
        if findC 58 l = l.size then .inl (0, 3) else if nameB (l.extract 0 (findC 58 l)) = false then .inl (0, 12) else if out.length = 64 then .inl (0, 9) else
        bodyP l (findC 58 l + 1) (out ++ [(l.extract 0 (findC 58 l), ⟨#[]⟩)]) := by unfold lineP; rw [if_neg h9]
    -- the words of the line are added
    have tl : ∀ (n : Nat) (p' : Option Addr) (c' : Nat) (out' : List Fd) (st : Nat) (w3 : World), out'.length = n → 0 < n → n ≤ 64 → st ≤ l.size → (lastB out').size ≤ 8192 → w3.ownsRow w.heap.size 89 2 (.slice p' n c') n (out'.flatMap fC) → K0 w w3 →
        (G = match bodyP l st out' with | .inl x => ([], ((a + x.1 : Nat) : Int), x.2) | .inr o => prsR s (t + 1) o) →
        CallsS Tryz.prog 73 #[.string (lastB out'), .string s, .int .i64 ((a + st : Nat) : Int), .int .i64 (t : Int)] w3 (fun e w5 => ∃ (x6 : ByteArray) (x7 : Int), e = .returned (.tuple #[.string x6, .int .i64 x7]) ∧ KeptL [] w3 w5 ∧
          bsp (decide (x7 ≥ 0)) (R (.returned (.tuple #[.slice none 0 0, .int .i64 x7, .int .i64 5])) w5) (bsp (decide ((x6.size : Int) > 8192)) (R (.returned (.tuple #[.slice none 0 0, .int .i64 (a : Int), .int .i64 5])) w5)
            (nn true p' fun g o => (0 ≤ IntKind.i64.wrap ((n : Int) - 1) ∧ IntKind.i64.wrap ((n : Int) - 1) < (n : Int)) ∧ ((∃ u : Value, w5.cell? ⟨g, o + (IntKind.i64.wrap ((n : Int) - 1)).toNat * 2 + 1, none⟩ = some u) ∧ w5.frozen? ⟨g, o + (IntKind.i64.wrap ((n : Int) - 1)).toNat * 2 + 1, none⟩ = false) ∧
              ∀ w6 : World, PutB w5 g (o + (IntKind.i64.wrap ((n : Int) - 1)).toNat * 2 + 1) [.string x6] w6 → KeptL [] w5 w6 ∧ Inv [.int .i64 (IntKind.i64.wrap ((t : Int) + 1)), .slice p' n c'] w6 ∧ ms [.int .i64 (IntKind.i64.wrap ((t : Int) + 1)), .slice p' n c'] w6 < ms [.int .i64 (a : Int), .slice p out.length c] w2))) := by
      intro n p' c' out' st w3 hn h0 h64 hst hz ho k3 hg
      refine ⟨(hadd (lastB out') st w3 hst (by omega)).mono fun e w5 ⟨hQ, k5⟩ => ?_⟩
      have k05 := k3.trans k5
      unfold bodyP at hg
      cases hbp : bigP l st with
      | some j =>
        rw [hbp] at hQ hg
        obtain ⟨b', he⟩ := hQ
        exact ⟨_, _, he, .of_k0 k5, bsp_intro (fun _ => errR _ _ _ k05 hg) (fun h => by simp at h; omega)⟩
      | none =>
        rw [hbp] at hQ hg
        simp only at hQ hg
        refine ⟨_, _, hQ, .of_k0 k5, bsp_intro (fun h => by simp at h) (fun _ => bsp_intro (fun h8 => ?_) (fun h8 => ?_))⟩
        · have h8 : 8192 < (joinW (lastB out') (WF l st)).size := by simp at h8; omega
          rw [if_pos h8] at hg
          exact errR _ _ _ k05 hg
        · have h8 : ¬ 8192 < (joinW (lastB out') (WF l st)).size := by simp at h8; omega
          rw [if_neg h8] at hg
          have en : IntKind.i64.wrap ((n : Int) - 1) = ((n - 1 : Nat) : Int) := by rw [wr64 (by omega) (by omega)]; omega
          obtain ⟨g, hp, hgB, hgl, _, hwr, hput⟩ := own_last (owns_kp ho k5 (fun _ _ h => h)) hn h0
          rw [en, Int.toNat_natCast]
          refine nn_is hp ⟨⟨by omega, by omega⟩, hwr, fun w6 p6 => ⟨.of_kp p6.kp (fun _ hx => by cases hx), ⟨t + 1, p', c', setL out' (joinW (lastB out') (WF l st)), ?_, by omega, hg.symm, by rw [setL_len]; omega, by rw [lastB_setL (by omega)]; omega, ?_, k05.fresh p6.kp (fun j hj e => by have e : j = g := e; omega)⟩, ?_⟩⟩
          · rw [inc64 (by omega), setL_len, hn]
          · rw [setL_len, hn]; exact hput _ _ p6
          · show s.size - (IntKind.i64.wrap ((t : Int) + 1)).toNat < s.size - (a : Int).toNat
            rw [inc64 (by omega), Int.toNat_natCast, Int.toNat_natCast]; omega
    refine ⟨fun vs w' => ∃ (i : Nat) (cl : Int), vs = [.int .i64 ((a + i : Nat) : Int), .int .i64 cl] ∧ i ≤ l.size ∧ (∀ j, j < i → okB (at8 l j) = true) ∧ ((cl = -1 ∧ ∀ j, j < i → at8 l j ≠ 58) ∨ ∃ f : Nat, cl = ((a + f : Nat) : Int) ∧ f < i ∧ at8 l f = 58 ∧ ∀ j, j < f → at8 l j ≠ 58) ∧ w' = w2,
      fun vs _ => (match vs with | .int _ x :: _ => s.size - x.toNat | _ => 0), ⟨0, -1, rfl, Nat.zero_le _, (fun j h => by omega), .inl ⟨rfl, fun j h => by omega⟩, rfl⟩, ?_⟩
    rintro x cl w3 ⟨i, cl', hv, hi, hok, hcl, rfl⟩
    simp only [List.cons.injEq, Value.int.injEq, true_and, and_true] at hv
    obtain ⟨rfl, rfl⟩ := hv
    refine bsp_intro (fun hc => ?_) (fun hc => ?_)
    · have hil : i < l.size := by simp at hc; omega
      rw [Int.toNat_natCast, ← hat8 i (by omega)]
      have eok : (!visB (at8 l i) && !blankB (at8 l i)) = !okB (at8 l i) := by unfold okB; cases visB (at8 l i) <;> cases blankB (at8 l i) <;> rfl
      rw [eok]
      refine ⟨⟨by omega, by omega⟩, gimp_intro fun _ => ⟨by omega, by omega⟩, bsp_intro (fun hb => ?_) (fun hb => ?_)⟩
      · have hb : okB (at8 l i) = false := by simpa using hb
        have e : skipN okB l 0 = i := (skipN_to okB l (i := 0) (Nat.zero_le _)).uniq ⟨Nat.zero_le _, by omega, fun j _ hj => hok j hj, fun _ => hb⟩
        rw [hlin, e, if_pos hil] at hstep
        exact errR _ _ _ k1 hstep
      · have hb : okB (at8 l i) = true := by simpa using hb
        have hms : s.size - (a + i + 1) < s.size - (a + i) := by clear hcl; omega
        have hok' : ∀ j, j < i + 1 → okB (at8 l j) = true := fun j hj => by
          by_cases e : j = i
          · rw [e]; exact hb
          · exact hok j (by omega)
        refine ⟨⟨by omega, by omega⟩, bsp_intro (fun h5 => ?_) (fun h5 => ?_)⟩
        · simp only [Bool.and_eq_true, beq_iff_eq, decide_eq_true_eq] at h5
          have hno : ∀ j, j < i → at8 l j ≠ 58 := by
            rcases hcl with ⟨_, h⟩ | ⟨f, h, _⟩
            · exact h
            · omega
          refine ⟨⟨i + 1, _, by rw [inc64 (by omega)]; rfl, hil, hok', .inr ⟨i, rfl, by omega, h5.1, hno⟩, rfl⟩, by rw [inc64 (by clear hcl; omega)]; simp only [Int.toNat_natCast]; exact hms⟩
        · refine ⟨⟨i + 1, cl, by rw [inc64 (by omega)]; rfl, hil, hok', ?_, rfl⟩, by rw [inc64 (by clear hcl; omega)]; simp only [Int.toNat_natCast]; exact hms⟩
          rcases hcl with ⟨h1, h⟩ | ⟨f, h1, h2, h3, h4⟩
          · refine .inl ⟨h1, fun j hj => ?_⟩
            by_cases e : j = i
            · subst e
              intro e
              rw [e, h1] at h5
              simp at h5
            · exact h j (by omega)
          · exact .inr ⟨f, h1, by omega, h3, h4⟩
    have hil : i = l.size := by simp at hc; omega
    subst hil
    have e : skipN okB l 0 = l.size := skip_all hok
    rw [e, if_neg (by omega)] at hlin
    have hcont : (decide ((a : Int) < (t : Int)) && blankB (at8 s a)) = contB l := by
      unfold contB
      rcases Nat.lt_or_ge a t with h | h
      · rw [hat8 0 (by omega), decide_eq_true (by omega), decide_eq_true (by omega)]; rfl
      · rw [decide_eq_false (by omega), decide_eq_false (by omega)]; rfl
    have hfc : (cl = -1 ∧ findC 58 l = l.size) ∨ (cl = ((a + findC 58 l : Nat) : Int) ∧ findC 58 l < l.size) := by
      rcases hcl with ⟨h1, h⟩ | ⟨f, h1, h2, h3, h4⟩
      · exact .inl ⟨h1, (findC_first 58 l).uniq ⟨Nat.zero_le _, Nat.le_refl _, fun j _ hj => h j hj, fun h => by omega⟩⟩
      · have : findC 58 l = f := (findC_first 58 l).uniq ⟨Nat.zero_le _, by omega, fun j _ hj => h4 j hj, fun _ => h3⟩
        exact .inr ⟨by rw [this]; exact h1, by omega⟩
    rw [hcont]
    refine ⟨gimp_intro fun h => ⟨by omega, by simp at h; omega⟩, bsp_intro (fun hb => ?_) (fun hb => ?_)⟩
    · simp only [Bool.or_eq_true, Bool.and_eq_true, beq_iff_eq, Bool.not_eq_true', decide_eq_true_eq] at hb
      have : lineP l out = .inl (0, 3) := by
        rcases hb with ⟨h1, h2⟩ | ⟨h1, h2⟩
        · rw [hlin, if_pos h1, if_pos (by omega)]
        · rw [hlin, if_neg (by rw [h1]; decide), if_pos (by omega)]
      rw [this] at hstep
      exact errR _ _ _ k1 hstep
    refine bsp_intro (fun hnc => ?_) (fun hnc => ?_)
    · have hnc : contB l = false := by simpa using hnc
      rw [hnc] at hb
      rw [if_neg (by rw [hnc]; decide)] at hlin
      have hcl0 : cl = ((a + findC 58 l : Nat) : Int) ∧ findC 58 l < l.size := by
        rcases hfc with ⟨h1, _⟩ | h
        · rw [h1] at hb; simp at hb
        · exact h
      obtain ⟨rfl, hf⟩ := hcl0
      rw [if_neg (by omega)] at hlin
      generalize findC 58 l = f at *
      rw [Int.toNat_natCast, hext f (by clear hcl; omega)]
      clear hcl hfc
      refine ⟨⟨by omega, by omega, by omega⟩, ⟨(r9valid_any (l.extract 0 f) w3).mono fun e w4 ⟨he, k4⟩ => ⟨_, he, .of_k0 k4, bsp_intro (fun hv => ?_) (fun hv => ?_)⟩⟩⟩
      · have hv : nameB (l.extract 0 f) = false := by simpa using hv
        rw [hlin, if_pos hv] at hstep
        exact errR _ _ _ (k1.trans k4) hstep
      have hv : ¬ nameB (l.extract 0 f) = false := by simpa using hv
      rw [if_neg hv] at hlin
      refine bsp_intro (fun h64 => ?_) (fun h64 => ⟨⟨by omega, by omega, by omega⟩, fun n1 W5 hW5 => ?_⟩)
      · have h64 : out.length = 64 := by simp at h64; omega
        rw [hlin, if_pos h64] at hstep
        exact errR _ _ _ (k1.trans k4) hstep
      have h64 : ¬ out.length = 64 := by intro e; rw [e] at h64; simp at h64
      rw [hlin, if_neg h64] at hstep
      have k5 : K0 w4 W5 := hW5.kk rfl
      have k45 := k4.trans k5
      refine ⟨w.heap.size, _, owns_kp hrow k45 (fun _ _ h => h), by omega, by omega, Nat.le_trans k1.size k45.size, fun p6 c6 w6 ho6 hg6 _ => ?_⟩
      have k6 : K0 w w6 := (k1.trans k45).fresh (kp_grown hg6) (fun j hj e => by have := own_ge hrow e; omega)
      have ho6' : w6.ownsRow w.heap.size 89 2 (.slice p6 (out.length + 1) c6) (out.length + 1) ((out ++ [(l.extract 0 f, (⟨#[]⟩ : ByteArray))]).flatMap fC) := by rw [List.flatMap_append]; exact ho6
      have hln : (out ++ [(l.extract 0 f, (⟨#[]⟩ : ByteArray))]).length = out.length + 1 := by simp
      obtain ⟨g, hp, _, _, hcell, _, _⟩ := own_last ho6' hln (by omega)
      have en : IntKind.i64.wrap (((out.length + 1 : Nat) : Int) - 1) = ((out.length + 1 - 1 : Nat) : Int) := by rw [wr64 (by omega) (by omega)]; omega
      refine ⟨⟨(kp_grown hg6).size, fun _ hx => by cases hx⟩, nn_is hp ⟨by rw [en]; exact ⟨by omega, by omega⟩, _, by rw [en, Int.toNat_natCast]; exact hcell, ?_⟩⟩
      rw [inc64 (by omega)]
      exact tl (out.length + 1) p6 c6 _ (f + 1) w6 hln (by omega) (by omega) (by omega) (by rw [lastB_snoc]; exact Nat.zero_le _) ho6' k6 hstep
    · have hnc : contB l = true := by simpa using hnc
      rw [hnc] at hb
      have h0 : ¬ out.length = 0 := by intro e; rw [e] at hb; simp at hb
      rw [hlin, if_pos hnc, if_neg h0] at hstep
      obtain ⟨g, hp, _, _, hcell, _, _⟩ := own_last hrow rfl (by omega)
      have en : IntKind.i64.wrap ((out.length : Int) - 1) = ((out.length - 1 : Nat) : Int) := by rw [wr64 (by omega) (by omega)]; omega
      refine nn_is hp ⟨by rw [en]; exact ⟨by omega, by omega⟩, _, by rw [en, Int.toNat_natCast]; exact hcell, ?_⟩
      exact tl out.length p c out 0 w3 rfl (by omega) hol (Nat.zero_le _) hlb hrow k1 hstep
  · have hge : s.size ≤ a := by simp at hge; omega
    rw [prsR_end hge] at hR
    rw [← hR]
    exact ⟨⟨p, c, rfl, hrow⟩, k1⟩

end Go.Proofs.YtmlmdljnfokebaaGreatDoor

/- Chapter 49: the contract of the reference's Parse. Bounded texts. -/
namespace Go.Proofs.YtmlmdljnfokebaaGreatDoor
open Go.RowKit

theorem Loc.k0' {z : Nat} {T : List Blk} {w0 w W : World} (h : Loc z T w W) (k : K0 w0 w) (hm : ∀ x ∈ T, x.m = 1 → w0.heap.size ≤ x.n) : K0 w0 W :=
  k.fresh h.kp (fun i hi ⟨x, hx, h1, e⟩ => by have := hm x hx h1; omega)
theorem adrP_sz (s : ByteArray) : (adrP s).1.1.size ≤ s.size ∧ (adrP s).1.2.size ≤ s.size := by
  unfold adrP
  split
  · exact ⟨Nat.zero_le _, Nat.zero_le _⟩
  split
  · exact ⟨Nat.zero_le _, Nat.zero_le _⟩
  split
  · exact ⟨Nat.zero_le _, Nat.zero_le _⟩
  · simp only [ByteArray.size_extract]; omega
theorem xpP_len {s : ByteArray} (h1 : ¬ nnN s = s.size) (h2 : ¬ (prs (s.extract 0 (nnN s + 1))).2.2 ≠ 0) (h : ¬ (prs (s.extract 0 (nnN s + 1))).1.length = 6) : xpP s = (mz, 0, 3) := by
  unfold xpP
  rw [if_neg h1, if_neg h2]
  generalize (prs (s.extract 0 (nnN s + 1))).1 = l at h
  match l, h with
  | [], _ => rfl
  | [_], _ => rfl
  | [_, _], _ => rfl
  | [_, _, _], _ => rfl
  | [_, _, _, _], _ => rfl
  | [_, _, _, _, _], _ => rfl
  | [_, _, _, _, _, _], h => exact absurd rfl h
  | _ :: _ :: _ :: _ :: _ :: _ :: _ :: _, _ => rfl
set_option maxHeartbeats 4000000 in
theorem xparse_any (s : ByteArray) (w : World) (hs : s.size ≤ 1000000) :
    Calls Tryz.prog 9 #[.string s] w fun e w' => (∃ (q : Option Addr) (d : Nat), e = .returned (.tuple #[mxA (mpP s).1 q d, .int .i64 (mpP s).2.1, .int .i64 (mpP s).2.2]) ∧ w'.ownsRow w.heap.size 9 1 (.slice q (mpP s).1.hops.length d) (mpP s).1.hops.length ((mpP s).1.hops.map .string)) ∧ K0 w w' := by
  rw [← xp_mp]
  refine vc_xparse s w _ (fun n W hW => ?_)
  have kW : K0 w W := hW.kk rfl
  have hn := block_lt (hW.cells 0 rfl)
  simp only at hn
  have hzero : ∀ w' : World, w'.ownsRow w.heap.size 9 1 (.slice none (mz.hops).length 0) (mz.hops).length (mz.hops.map .string) := fun w' => ⟨rfl, .inl ⟨rfl, rfl⟩⟩
  refine ⟨fun vs w' => ∃ (i : Nat) (x : Int), vs = [.int .i64 (i : Int), .int .i64 x] ∧ i ≤ s.size ∧ ((x = -1 ∧ ∀ j, j < i → ¬ NN s j) ∨ ∃ r : Nat, x = (r : Int) ∧ NN s r ∧ ∀ j, j < r → ¬ NN s j) ∧ K0 W w',
    fun vs _ => (match vs with | .int _ x :: _ => s.size - x.toNat | _ => 0), ⟨0, -1, rfl, Nat.zero_le _, .inl ⟨rfl, fun j h => by omega⟩, .refl _ _⟩, ?_⟩
  rintro y x w1 ⟨i, x', hv, hi, hx, k1⟩ _
  simp only [List.cons.injEq, Value.int.injEq, true_and, and_true] at hv
  obtain ⟨rfl, rfl⟩ := hv
  have ei : IntKind.i64.wrap ((i : Int) + 1) = ((i + 1 : Nat) : Int) := inc64 (by clear hx; omega)
  rw [ei]
  refine bsp_intro (fun hlt => ?_) (fun hge => ?_)
  · simp only [Bool.and_eq_true, decide_eq_true_eq] at hlt
    have hx1 : x = -1 ∧ ∀ j, j < i → ¬ NN s j := by
      rcases hx with h | ⟨r, h, _⟩
      · exact h
      · omega
    clear hx
    rw [Int.toNat_natCast, Int.toNat_natCast]
    refine ⟨⟨by omega, by omega⟩, gimp_intro fun _ => ⟨by omega, by omega⟩, bsp_intro (fun hb => ?_) (fun hb => ?_)⟩
    · simp only [Bool.and_eq_true, beq_iff_eq] at hb
      exact ⟨⟨i + 1, _, rfl, by omega, .inr ⟨i, rfl, ⟨by omega, hb.1, hb.2⟩, hx1.2⟩, k1⟩, by simp only [Int.toNat_natCast]; omega⟩
    · refine ⟨⟨i + 1, _, rfl, by omega, .inl ⟨hx1.1, fun j hj hnj => ?_⟩, k1⟩, by simp only [Int.toNat_natCast]; omega⟩
      by_cases e : j = i
      · subst e
        rw [hnj.2.1, hnj.2.2] at hb
        simp at hb
      · exact hx1.2 j (by omega) hnj
  have hnn : (x = -1 ∧ nnN s = s.size) ∨ (x = ((nnN s : Nat) : Int) ∧ ¬ nnN s = s.size) := by
    rcases hx with ⟨h1, h2⟩ | ⟨r, h1, h2, h3⟩
    · refine .inl ⟨h1, nn_none fun j hj => ?_⟩
      by_cases e : j < i
      · exact h2 j e hj
      · have := hj.1
        rw [h1] at hge
        simp at hge
        omega
    · have e := nn_at h2 h3
      have := h2.1
      exact .inr ⟨by rw [e]; exact h1, by omega⟩
  clear hx
  have k01 := kW.trans k1
  refine bsp_intro (fun hneg => fun W2 hW2 => ?_) (fun hneg => ?_)
  · have h0 : nnN s = s.size := by
      rcases hnn with h | h
      · exact h.2
      · simp at hneg; omega
    have e : xpP s = (mz, (s.size : Int), 4) := by unfold xpP; rw [if_pos h0]
    rw [e]
    exact ⟨⟨none, 0, rfl, hzero _⟩, hW2.k0 k01⟩
  have hx2 : x = ((nnN s : Nat) : Int) ∧ ¬ nnN s = s.size := by
    rcases hnn with h | h
    · rw [h.1] at hneg; simp at hneg
    · exact h
  clear hnn
  obtain ⟨rfl, h0⟩ := hx2
  have hlt := nn_lt h0
  rw [inc64 (by omega), wr64 (x := ((nnN s : Nat) : Int) + 2) (by omega) (by omega), show ((nnN s : Nat) : Int) + 2 = ((nnN s + 2 : Nat) : Int) by omega, Int.toNat_natCast, Int.toNat_natCast]
  refine ⟨⟨by omega, by omega⟩, ⟨(r9parse_any (s.extract 0 (nnN s + 1)) w1).mono fun e w2 ⟨⟨p, c, he, ho⟩, k2⟩ => ⟨_, _, _, _, _, he, .of_k0 k2, bsp_intro (fun hb => fun W3 hW3 => ?_) (fun hb => ?_)⟩⟩⟩
  · have hb : (prs (s.extract 0 (nnN s + 1))).2.2 ≠ 0 := by simpa using hb
    have e : xpP s = (mz, (prs (s.extract 0 (nnN s + 1))).2.1, (prs (s.extract 0 (nnN s + 1))).2.2) := by unfold xpP; rw [if_neg h0, if_pos hb]
    rw [e]
    exact ⟨⟨none, 0, rfl, hzero _⟩, hW3.k0 (k01.trans k2)⟩
  have hb : ¬ (prs (s.extract 0 (nnN s + 1))).2.2 ≠ 0 := by simpa using hb
  have hsz := prs_sz (s.extract 0 (nnN s + 1))
  have hrow : RowA fC 2 w2 p (prs (s.extract 0 (nnN s + 1))).1 := RowA.own ho fC_len (by decide)
  have k02 := k01.trans k2
  refine bsp_intro (fun h6 => fun W3 hW3 => ?_) (fun h6 => fun n2 => ?_)
  · have h6 : ¬ (prs (s.extract 0 (nnN s + 1))).1.length = 6 := by intro e; rw [e] at h6; simp at h6
    rw [xpP_len h0 hb h6]
    exact ⟨⟨none, 0, rfl, hzero _⟩, hW3.k0 k02⟩
  have h6 : (prs (s.extract 0 (nnN s + 1))).1.length = 6 := by simp at h6; omega
  obtain ⟨f0, f1, f2, f3, f4, f5, hl⟩ := six h6
  have hxp : xpP s = finM (rawM f0 f1 f2 f3 f4 f5 (s.extract (nnN s + 2) s.size)) s := by unfold xpP; rw [if_neg h0, if_neg hb, hl]
  rw [hxp]
  rw [hl] at hsz hrow ⊢
  clear hxp hl ho
  obtain ⟨b, o, hp, _⟩ := hrow 0 f0 rfl
  have cell : ∀ (k : Nat) (y : Fd), [f0, f1, f2, f3, f4, f5][k]? = some y → w2.cell? ⟨b, o + k * 2 + 1, none⟩ = some (.string y.2) := fun k y hy => by
    obtain ⟨b', o', hp', hat⟩ := hrow k y hy
    rw [hp] at hp'
    cases hp'
    exact hat.cell (j := 1) rfl
  have c0 := cell 0 f0 rfl
  have c1 := cell 1 f1 rfl
  have c2 := cell 2 f2 rfl
  have c3 := cell 3 f3 rfl
  have c4 := cell 4 f4 rfl
  have c5 := cell 5 f5 rfl
  have z0 := hsz f0 (by simp)
  have z1 := hsz f1 (by simp)
  have z2 := hsz f2 (by simp)
  have z3 := hsz f3 (by simp)
  have z4 := hsz f4 (by simp)
  have lt6 : ∀ k : Nat, k < 6 → (0 : Int) ≤ (k : Int) ∧ (k : Int) < (([f0, f1, f2, f3, f4, f5].length : Nat) : Int) := fun k hk => ⟨by omega, by show (k : Int) < ((6 : Nat) : Int); omega⟩
  have kp : ∀ {w' : World} {j : Nat} {y : ByteArray}, K0 w2 w' → w2.cell? ⟨b, j, none⟩ = some (.string y) → w'.cell? ⟨b, j, none⟩ = some (.string y) := fun k h => k.cell' h (fun h => h)
  refine nn_is hp ⟨lt6 0 (by decide), f0.2, fun W hW => kp (hW.kk rfl) c0, fun W3 hW3 => ?_⟩
  have g2 : w2.heap.size ≤ n2 := hW3.fresh 0 rfl rfl
  have side : ∀ {T : List Blk} {A B : Blk}, T = [A, B] → A.n = n2 → B.m = 0 → ∀ x ∈ T, x.m = 1 → w2.heap.size ≤ x.n := by
    rintro T A B rfl hA hB x hx hm
    simp only [List.mem_cons, List.not_mem_nil, or_false] at hx
    rcases hx with rfl | rfl
    · omega
    · omega
  have k3 : K0 w2 W3 := hW3.kk rfl
  refine ⟨(xaddr_any f0.2 W3 (by omega)).mono fun e w4 ⟨he, k4⟩ => ⟨_, _, _, he, .of_k0 k4, nn_is hp ⟨lt6 1 (by decide), f1.2, fun W hW => kp (hW.k0' (k3.trans k4) (side rfl rfl rfl)) c1, fun W5 hW5 => ?_⟩⟩⟩
  have k5 : K0 w2 W5 := hW5.k0' (k3.trans k4) (side rfl rfl rfl)
  refine ⟨(xaddr_any f1.2 W5 (by omega)).mono fun e w6 ⟨he, k6⟩ => ⟨_, _, _, he, .of_k0 k6, nn_is hp ⟨lt6 2 (by decide), f2.2, fun W hW => kp (hW.k0' (k5.trans k6) (side rfl rfl rfl)) c2, fun W7 hW7 => ?_⟩⟩⟩
  have k7 : K0 w2 W7 := hW7.k0' (k5.trans k6) (side rfl rfl rfl)
  refine ⟨(r1num_any f2.2 2147483647 W7 (by omega) (by omega)).mono fun e w8 ⟨he, k8⟩ => ⟨_, _, he, .of_k0 k8, nn_is hp ⟨lt6 3 (by decide), f3.2, fun W hW => kp (hW.k0' (k7.trans k8) (side rfl rfl rfl)) c3, fun W9 hW9 => ?_⟩⟩⟩
  have k9 : K0 w2 W9 := hW9.k0' (k7.trans k8) (side rfl rfl rfl)
  refine ⟨(r1num_any f3.2 105190559 W9 (by omega) (by omega)).mono fun e w10 ⟨he, k10⟩ => ⟨_, _, he, .of_k0 k10, nn_is hp ⟨lt6 4 (by decide), f4.2, fun W hW => kp (hW.k0' (k9.trans k10) (side rfl rfl rfl)) c4, fun W11 hW11 => ?_⟩⟩⟩
  have k11 : K0 w2 W11 := hW11.k0' (k9.trans k10) (side rfl rfl rfl)
  refine ⟨(r1words_any f4.2 W11 (by omega)).mono fun e w12 ⟨⟨q, d, he, hoq⟩, k12⟩ => ⟨_, _, _, he, .of_k0 k12, nn_is hp ⟨lt6 5 (by decide), f5.2, fun W hW => kp (hW.k0' (k11.trans k12) (side rfl rfl rfl)) c5, ⟨by omega, by omega⟩, fun W13 hW13 => ?_⟩⟩⟩
  have k13 : K0 w2 W13 := hW13.k0' (k11.trans k12) (side rfl rfl rfl)
  have l3 := block_lt (hW3.cells 0 rfl)
  simp only at l3
  have hg : W3.heap.size ≤ W11.heap.size := Nat.le_trans (Nat.le_trans k4.size hW5.kp.size) (Nat.le_trans (Nat.le_trans k6.size hW7.kp.size) (Nat.le_trans (Nat.le_trans k8.size hW9.kp.size) (Nat.le_trans k10.size hW11.kp.size)))
  have ho13 : W13.ownsRow W11.heap.size 9 1 (.slice q (words f4.2).length d) (words f4.2).length ((words f4.2).map .string) := owns_kp hoq hW13.kp (fun k hk ⟨x, hx, hm, e⟩ => by
    have := own_ge hoq hk
    simp only [List.mem_cons, List.not_mem_nil, or_false] at hx
    rcases hx with rfl | rfl
    · have e : n2 = k := e
      omega
    · cases hm)
  have a0 := adrP_sz f0.2
  have a1 := adrP_sz f1.2
  have hwl := (words_sizes f4.2).2
  have hbz : (s.extract (nnN s + 2) s.size).size ≤ 1000000 := by rw [ByteArray.size_extract]; omega
  show CallsS _ _ #[mxA (rawM f0 f1 f2 f3 f4 f5 (s.extract (nnN s + 2) s.size)) q d] _ _
  refine ⟨(xprint_any (rawM f0 f1 f2 f3 f4 f5 (s.extract (nnN s + 2) s.size)) q d W13 (strP_own ho13) (own_le ho13) ⟨by show (adrP f0.2).1.1.size ≤ _; omega, by show (adrP f0.2).1.2.size ≤ _; omega, by show (adrP f1.2).1.1.size ≤ _; omega, by show (adrP f1.2).1.2.size ≤ _; omega⟩ (by show (s.extract (nnN s + 2) s.size).size ≤ _; omega) (by show (words f4.2).length ≤ _; omega)).mono fun e w14 ⟨he, k14⟩ => ⟨_, _, he, .of_k0 k14, ?_⟩⟩
  have k014 := (k02.trans k13).trans k14
  unfold finM
  refine bsp_intro (fun h => fun W15 hW15 => ?_) (fun h => fun W15 hW15 => ?_)
  · have h : (prM (rawM f0 f1 f2 f3 f4 f5 (s.extract (nnN s + 2) s.size))).2 ≠ 0 ∨ (prM (rawM f0 f1 f2 f3 f4 f5 (s.extract (nnN s + 2) s.size))).1 ≠ s := by
      simp only [Bool.or_eq_true, bne_iff_ne, Bool.not_eq_true', beq_eq_false_iff_ne] at h
      rcases h with h | h
      · exact .inl h
      · exact .inr fun e => h (by rw [e])
    rw [if_pos h]
    exact ⟨⟨none, 0, rfl, hzero _⟩, hW15.k0 k014⟩
  · have h : ¬ ((prM (rawM f0 f1 f2 f3 f4 f5 (s.extract (nnN s + 2) s.size))).2 ≠ 0 ∨ (prM (rawM f0 f1 f2 f3 f4 f5 (s.extract (nnN s + 2) s.size))).1 ≠ s) := by
      simp only [Bool.or_eq_false_iff, bne_eq_false_iff_eq, Bool.not_eq_false', beq_iff_eq] at h
      rintro (h2 | h2)
      · exact h2 h.1
      · exact h2 (str_eq h.2)
    rw [if_neg h]
    have hs2 := k02.size
    refine ⟨⟨q, d, rfl, own_base (owns_kp (owns_kp ho13 k14 (fun _ _ h => h)) hW15.kp (fun k hk ⟨x, hx, hm, e⟩ => ?_)) (by have := k11.size; omega)⟩, hW15.k0 k014⟩
    have h1 := own_ge ho13 hk
    have := k1.size
    have := k2.size
    have := k11.size
    simp only [List.mem_cons, List.not_mem_nil, or_false] at hx
    rcases hx with rfl | rfl
    · cases hm
    · have e : n = k := e
      omega

end Go.Proofs.YtmlmdljnfokebaaGreatDoor

/- Chapter 49: the contract of Equal of messages. No condition but sizes. -/
namespace Go.Proofs.YtmlmdljnfokebaaGreatDoor
open Go.RowKit Go.Maps

theorem mequal_any (a b : Ml) (p : Option Addr) (c : Nat) (q : Option Addr) (d : Nat) (w : World) (hp : StrP w p a.hops) (hq : StrP w q b.hops) (hl : a.hops.length ≤ 1099511627776) (za : SzM a) (zb : SzM b) :
    Calls Tryz.prog 16 #[mxA a p c, mxA b q d] w fun e w' => e = .returned (.bool (eqM a b)) ∧ K0 w w' := by
  refine vc_mequal a.fu a.fs a.tu a.ts a.n a.d a.sj p a.hops.length c a.bd b.fu b.fs b.tu b.ts b.n b.d b.sj q b.hops.length d b.bd w _ (fun n1 n2 => ?_)
  refine ⟨_, adEq _ _ _ _ za.1 za.2.1 zb.1 zb.2.1, a.tu, a.ts, gimp_intro fun _ W hW => AtL_block (hW.cells 1 rfl) rfl, b.tu, b.ts, gimp_intro fun _ W hW => AtL_block (hW.cells 0 rfl) rfl, _, gimp_intro fun _ => adEq _ _ _ _ za.2.2.1 za.2.2.2 zb.2.2.1 zb.2.2.2, ?_⟩
  refine ⟨a.n, gimp_intro fun _ W hW => cell_at (hW.cells 1 rfl) rfl, b.n, gimp_intro fun _ W hW => cell_at (hW.cells 0 rfl) rfl, a.d, gimp_intro fun _ W hW => cell_at (hW.cells 1 rfl) rfl, b.d, gimp_intro fun _ W hW => cell_at (hW.cells 0 rfl) rfl, ?_⟩
  refine ⟨a.sj, gimp_intro fun _ W hW => cell_at (hW.cells 1 rfl) rfl, b.sj, gimp_intro fun _ W hW => cell_at (hW.cells 0 rfl) rfl, ?_⟩
  refine ⟨p, a.hops.length, c, gimp_intro fun _ W hW => cell_at (hW.cells 1 rfl) rfl, q, b.hops.length, d, gimp_intro fun _ W hW => cell_at (hW.cells 0 rfl) rfl, fun W hW => ?_⟩
  have kW : K0 w W := hW.kk rfl
  have hca := hW.cells 1 rfl
  have hcb := hW.cells 0 rfl
  refine bsp_intro (fun h => ?_) (fun h => ?_)
  · refine ⟨(sequal_any a.hops b.hops p c q d W (hp.k0 kW) (hq.k0 kW) hl).mono fun e w1 ⟨he, k1⟩ => ⟨_, he, .of_k0 k1, a.bd, gimp_intro fun _ => cell_at (k1.blk hca (fun h => h)) rfl, b.bd, gimp_intro fun _ => cell_at (k1.blk hcb (fun h => h)) rfl, ?_, kW.trans k1⟩⟩
    have e1 : eqM a b = (true && decide (a.hops = b.hops) && a.bd.toList == b.bd.toList) := by rw [← h]; rfl
    rw [e1]
  · refine ⟨.refl _ _, a.bd, trivial, b.bd, trivial, ?_, kW⟩
    have e1 : eqM a b = false := by
      unfold eqM
      generalize decide (a.hops = b.hops) = z
      generalize (a.bd.toList == b.bd.toList) = y
      rw [h]; rfl
    rw [e1]; rfl

end Go.Proofs.YtmlmdljnfokebaaGreatDoor

/- Chapter 49: MailPrints and MailParses always return true. Conditions: sizes that memory allows; the library's tables hold what they hold. -/
namespace Go.Proofs.YtmlmdljnfokebaaGreatDoor
open Go.RowKit

theorem mp_chk (s : ByteArray) : (mpP s).1 = mz ∨ chkM (mpP s).1 = 0 := by
  unfold mpP
  split
  · exact .inl rfl
  split
  · exact .inl rfl
  split
  · exact .inl rfl
  unfold finM
  split
  · exact .inl rfl
  · rename_i h
    exact .inr (prM_err (Classical.byContradiction fun e => h (.inl e)))
theorem mp_bd (s : ByteArray) : SzM (mpP s).1 ∧ (mpP s).1.hops.length ≤ 16 ∧ (mpP s).1.bd.size ≤ 32768 := by
  rcases mp_chk s with h | h
  · rw [h]; exact ⟨⟨Nat.zero_le _, Nat.zero_le _, Nat.zero_le _, Nat.zero_le _⟩, Nat.zero_le _, Nat.zero_le _⟩
  · obtain ⟨z1, z2, z3, z4, z5, z6, z7, z8, z9, z10, z11, z12⟩ := chkM_bd h
    exact ⟨⟨by omega, by omega, by omega, by omega⟩, z10, z12⟩
set_option maxHeartbeats 1000000 in
theorem lprints_any (m : Ml) (p : Option Addr) (c : Nat) (w : World) (hR : StrP w p m.hops) (hhl : m.hops.length ≤ 4611686018427387904) (hz : SzM m) (hG : GX w) (hT : GT w) :
    Calls Tryz.prog 4 #[mxA m p c] w fun e w' => e = .returned (.bool true) ∧ K0 w w' := by
  refine vc_lprints m.fu m.fs m.tu m.ts m.n m.d m.sj p m.hops.length c m.bd w _ (fun n1 W hW => ?_)
  have kW : K0 w W := hW.kk rfl
  refine ⟨(to_any m p c W (hR.k0 kW) hhl).mono fun e w1 ⟨⟨q1, d1, he, ho1⟩, k1⟩ => ⟨_, _, _, _, _, _, _, _, _, _, _, he, .of_k0 k1, fun n3 W2 hW2 => ?_⟩⟩
  have hzx : SzM (toM m) := hz
  have hlx : (toM m).hops.length ≤ 20 := by show (m.hops.take 20).length ≤ 20; rw [List.length_take]; omega
  have hbx : (toM m).bd.size ≤ 33000 := by show (m.bd.extract 0 (min m.bd.size 33000)).size ≤ 33000; rw [ByteArray.size_extract]; omega
  generalize toM m = x at *
  have hr1 : StrP w1 q1 x.hops := strP_own ho1
  have hd1 : x.hops.length ≤ d1 := own_le ho1
  have k2 : K0 w1 W2 := hW2.kk rfl
  have k02 := (kW.trans k1).trans k2
  refine ⟨(mprint_any x q1 d1 W2 (hr1.k0 k2) hd1 (by omega) (by omega) (hT.k0 k02)).mono fun e w3 ⟨he, k3⟩ => ⟨_, _, he, .of_k0 k3, ?_⟩⟩
  have k23 := k2.trans k3
  refine ⟨(of_any x q1 d1 w3 (hr1.k0 k23) (by omega)).mono fun e w4 ⟨⟨q2, d2, he, ho2⟩, k4⟩ => ⟨_, _, _, _, _, _, _, _, _, _, _, he, .of_k0 k4, ?_⟩⟩
  refine ⟨(xprint_any x q2 d2 w4 (strP_own ho2) (own_le ho2) hzx (by omega) (by omega)).mono fun e w5 ⟨he, k5⟩ => ⟨_, _, he, .of_k0 k5, bsp_intro (fun h => by simp at h) (fun _ => ?_)⟩⟩
  have k05 := ((k02.trans k3).trans k4).trans k5
  refine bsp_intro (fun _ => ⟨(known_any w5 (hT.k0 k05)).mono fun e w6 ⟨he, k6⟩ => ⟨_, he, .of_k0 k6, rfl, k05.trans k6⟩⟩) (fun h => ?_)
  have h : (prM x).2 = 0 := by simpa using h
  have hp := prM_ok (prM_err h)
  have hs := hdT_size (prM_err h)
  have hsz : (prM x).1.size ≤ 1000000 := by
    rw [hp]
    show (hdT x ++ ⟨#[10]⟩ ++ x.bd : ByteArray).size ≤ _
    simp only [ByteArray.size_append, size_one]; omega
  have hmp := mp_pr h
  have hpar := mpar_any (prM x).1 w5 hsz (hG.k0 k05) (hT.k0 k05)
  rw [hmp] at hpar
  refine ⟨hpar.mono fun e w6 ⟨⟨q3, d3, he, ho3⟩, k6⟩ => ⟨_, _, _, _, _, _, _, _, _, _, _, _, _, he, .of_k0 k6, fun n6 W7 hW7 => ?_⟩⟩
  have k7 : K0 w6 W7 := hW7.kk rfl
  have k07 := (k05.trans k6).trans k7
  refine ⟨(known_any W7 (hT.k0 k07)).mono fun e w8 ⟨he, k8⟩ => ⟨_, he, .of_k0 k8, bsp_intro (fun _ => ?_) (fun h => by simp at h)⟩⟩
  refine ⟨(mequal_any x x q1 d1 q3 d3 w8 (hr1.k0 (((((k23.trans k4).trans k5).trans k6).trans k7).trans k8)) ((strP_own ho3).k0 (k7.trans k8)) (by omega) hzx hzx).mono fun e w9 ⟨he, k9⟩ => ⟨_, he, .of_k0 k9, ?_, (k07.trans k8).trans k9⟩⟩
  rw [eqM_self]; rfl
set_option maxHeartbeats 1000000 in
theorem lparses_any (s : ByteArray) (w : World) (_hs : s.size ≤ 4611686018427387904) (hG : GX w) (hT : GT w) :
    Calls Tryz.prog 3 #[.string s] w fun e w' => e = .returned (.bool true) ∧ K0 w w' := by
  refine vc_lparses s w _ ⟨⟨by split <;> omega, by split <;> omega⟩, ?_⟩
  have hsz : ∀ k : Nat, k ≤ 40000 → (s.extract 0 k).size ≤ 40000 := fun k hk => by rw [ByteArray.size_extract]; omega
  have hsz := hsz (if (40000 : Int) < (s.size : Int) then (40000 : Int) else (s.size : Int)).toNat (by split <;> omega)
  generalize s.extract 0 _ = s' at *
  obtain ⟨hzx, hlx, hbx⟩ := mp_bd s'
  have hok := @mp_ok s'
  have hpar := fun w => mpar_any s' w (by omega)
  have hxpar := fun w => xparse_any s' w (by omega)
  generalize (mpP s').1 = m at *
  generalize (mpP s').2.1 = a at *
  generalize (mpP s').2.2 = er at *
  refine ⟨(hpar w hG hT).mono fun e w1 ⟨⟨q1, d1, he, ho1⟩, k1⟩ => ⟨_, _, _, _, _, _, _, _, _, _, _, _, _, he, .of_k0 k1, fun n1 W2 hW2 => ?_⟩⟩
  have k2 : K0 w1 W2 := hW2.kk rfl
  refine ⟨(hxpar W2).mono fun e w3 ⟨⟨q2, d2, he, ho2⟩, k3⟩ => ⟨_, _, _, _, _, _, _, _, _, _, _, _, _, he, .of_k0 k3, fun n3 W4 hW4 => ?_⟩⟩
  have k4 : K0 w3 W4 := hW4.kk rfl
  have b1 := hW4.cells 1 rfl
  have b3 := hW4.cells 0 rfl
  have k14 := (k2.trans k3).trans k4
  have k04 := k1.trans k14
  have hr1 : StrP W4 q1 m.hops := strP_own (owns_kp ho1 k14 (fun _ _ h => h))
  have hr2 : StrP W4 q2 m.hops := strP_own (owns_kp ho2 k4 (fun _ _ h => h))
  refine ⟨fun wx => K0 W4 wx, .refl _ _, m.fu, m.fs, m.tu, m.ts, m.n, m.d, m.sj, q1, m.hops.length, d1, m.bd, gimp_intro fun _ wx k => AtL_block (k.blk b1 (fun h => h)) rfl, m.fu, m.fs, m.tu, m.ts, m.n, m.d, m.sj, q2, m.hops.length, d2, m.bd, gimp_intro fun _ wx k => AtL_block (k.blk b3 (fun h => h)) rfl, bsp_intro (fun _ => ?_) (fun h => by simp at h)⟩
  refine ⟨(of_any m q1 d1 W4 hr1 (by omega)).mono fun e w5 ⟨⟨q3, d3, he, ho3⟩, k5⟩ => ⟨_, _, _, _, _, _, _, _, _, _, _, he, k5, ?_⟩⟩
  refine ⟨(xsame_any m m q3 d3 q2 d2 w5 (strP_own ho3) (hr2.k0 k5) (by omega) hzx hzx).mono fun e w6 ⟨he, k6⟩ => ⟨_, he, .of_k0 (k5.trans k6), bsp_intro (fun h => by rw [eqM_self] at h; simp at h) (fun _ => ?_)⟩⟩
  have k06 := (k04.trans k5).trans k6
  refine ⟨(mprint_any m q1 d1 w6 (hr1.k0 (k5.trans k6)) (own_le ho1) (by omega) (by omega) (hT.k0 k06)).mono fun e w7 ⟨he, k7⟩ => ⟨_, _, he, .of_k0 k7, ?_⟩⟩
  refine ⟨(known_any w7 (hT.k0 (k06.trans k7))).mono fun e w8 ⟨he, k8⟩ => ⟨_, he, .of_k0 k8, ?_, (k06.trans k7).trans k8⟩⟩
  by_cases h0 : er = 0
  · rw [hok h0, h0]; simp
  · have : (er != 0) = true := by simpa using h0
    rw [this]; rfl

end Go.Proofs.YtmlmdljnfokebaaGreatDoor
