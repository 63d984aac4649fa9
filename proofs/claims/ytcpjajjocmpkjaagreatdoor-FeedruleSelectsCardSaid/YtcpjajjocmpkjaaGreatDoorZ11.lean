/- The contracts of the law's own conversions To and item. Slices of strings lie in the memory. -/
import Derived.Test.YtcpjajjocmpkjaaGreatDoorZ10
import Derived.Test.YtcpjajjocmpkjaaGreatDoorZ09
import Derived.Test.YtcpjajjocmpkjaaGreatDoorZ03
namespace Go.Proofs.YtcpjajjocmpkjaaGreatDoor
open Go.RowKit

/-- Strings that are copied by append to an empty slice of a new block of no cells. -/
theorem app0 {w w1 : World} {n0 sz : Nat} {T : TypeId} {q : Option Addr} {zs : List ByteArray} (hn : NewB w (.cells #[] T) n0 w1) (hz : StrP w1 q zs) (h1 : zs.length ≤ 1073741824) (h2 : zs.length * sz ≤ 140737488355328) {k : Nat} (hk : k = zs.length) {X : Option Addr → Nat → World → Prop}
    (h : ∀ (p' : Option Addr) (c' : Nat) (w' : World), w'.ownsRow n0 T 1 (.slice p' (0 + k) c') (0 + k) (zs.map Value.string) → K0 w w' → X p' c' w') :
    ∃ (base : Nat) (xs news : List Value), w1.ownsRow base T 1 (.slice (some (Addr.mk n0 0 none)) 0 0) 0 xs ∧ news.length = k * 1 ∧ SrcP w1 q news ∧ 0 + k ≤ 9223372036854775807 ∧ (0 + k) * sz ≤ 140737488355328 ∧ base ≤ w1.heap.size ∧
      ∀ (p' : Option Addr) (c' : Nat) (w' : World), w'.ownsRow base T 1 (.slice p' (0 + k) c') (0 + k) (xs ++ news) → w1.grownBy w' (Value.slice (some (Addr.mk n0 0 none)) 0 0).ownBlock → X p' c' w' := by
  subst hk
  refine ⟨n0, [], zs.map Value.string, ⟨rfl, .inr ⟨n0, 0, #[], rfl, Nat.le_refl _, hn.block, Nat.le_refl _, by decide, rfl, rfl⟩⟩, by simp, ⟨fun j u hj => ?_, fun u hu => ?_⟩, by omega, by rw [Nat.zero_add]; exact h2, by have := hn.size; omega, fun p' c' w' ho hg => h p' c' w' ho ?_⟩
  · rw [List.getElem?_map] at hj
    cases hz' : zs[j]? with
    | none => rw [hz'] at hj; simp at hj
    | some z =>
      rw [hz'] at hj
      simp at hj
      subst hj
      exact hz j z hz'
  · rw [List.mem_map] at hu
    obtain ⟨z, _, rfl⟩ := hu
    rfl
  · refine (hn.kp _).grown hg (fun k hk => .inl ?_)
    simp only [Value.ownBlock, Option.some.injEq] at hk
    have := hn.ge
    omega
theorem own_base {w : World} {base base' : Nat} {e : TypeId} {size : Nat} {v : Value} {n : Nat} {xs : List Value} (h : w.ownsRow base e size v n xs) (hb : base' ≤ base) : w.ownsRow base' e size v n xs :=
  ⟨h.1, h.2.imp id fun ⟨g, cap, cur, a1, a2, a3⟩ => ⟨g, cap, cur, a1, Nat.le_trans hb a2, a3⟩⟩

set_option maxHeartbeats 1000000 in
theorem to_any (nb ps : ByteArray) (mb dl : Int) (p : Option Addr) (c : Nat) (ds : List ByteArray) (w : World) (hds : StrP w p ds) :
    Calls Tryz.prog 4 #[.agg #[.string nb, .string ps, .int .i64 mb, .int .i64 dl, .slice p ds.length c]] w fun e w' => ∃ (p1 p2 : Option Addr) (c1 c2 : Nat),
      e = .returned (.tuple #[.agg #[.string (nb.extract 0 (min nb.size 40)), .string (ps.extract 0 (min ps.size 300)), .int .i64 mb, .int .i64 dl, .slice p1 (ds.take 10).length c1], .agg #[.string (nb.extract 0 (min nb.size 40)), .string (ps.extract 0 (min ps.size 300)), .int .i64 mb, .int .i64 dl, .slice p2 (ds.take 10).length c2]]) ∧
      w'.ownsRow w.heap.size 9 1 (.slice p1 (ds.take 10).length c1) (ds.take 10).length ((ds.take 10).map Value.string) ∧ w'.ownsRow w.heap.size 9 1 (.slice p2 (ds.take 10).length c2) (ds.take 10).length ((ds.take 10).map Value.string) ∧
      (∀ k, (Value.slice p1 (ds.take 10).length c1).ownBlock = some k → (Value.slice p2 (ds.take 10).length c2).ownBlock ≠ some k) ∧ K0 w w' := by
  refine vc_lto nb ps mb dl p ds.length c w _ ?_
  refine ⟨fun vs w' => ∃ (n n2 : Nat) (p1 p2 : Option Addr) (c1 c2 : Nat), vs = [.pointer (some ⟨n, 0, none⟩), .pointer (some ⟨n2, 0, none⟩)] ∧
      w'.heap[n]? = some (.cells #[.string (nb.extract 0 (min nb.size 40)), .string (ps.extract 0 (min ps.size 300)), .int .i64 mb, .int .i64 dl, .slice p1 (ds.take 10).length c1] 26 (0, 0)) ∧
      w'.heap[n2]? = some (.cells #[.string (nb.extract 0 (min nb.size 40)), .string (ps.extract 0 (min ps.size 300)), .int .i64 mb, .int .i64 dl, .slice p2 (ds.take 10).length c2] 24 (0, 0)) ∧
      w'.ownsRow w.heap.size 9 1 (.slice p1 (ds.take 10).length c1) (ds.take 10).length ((ds.take 10).map Value.string) ∧ w'.ownsRow w.heap.size 9 1 (.slice p2 (ds.take 10).length c2) (ds.take 10).length ((ds.take 10).map Value.string) ∧
      (∀ k, (Value.slice p1 (ds.take 10).length c1).ownBlock = some k → (Value.slice p2 (ds.take 10).length c2).ownBlock ≠ some k) ∧ K0 w w', ?_, ?_⟩
  rotate_left
  · rintro x x1 w' ⟨n, n2, p1, p2, c1, c2, hv, hb, hb2, ho, ho2, hne, hk⟩
    simp only [List.cons.injEq, Value.pointer.injEq, and_true] at hv
    obtain ⟨rfl, rfl⟩ := hv
    exact ⟨_, _, _, _, _, _, _, AtL_block hb rfl, _, _, _, _, _, _, _, AtL_block hb2 rfl, p1, p2, c1, c2, rfl, ho, ho2, hne, hk⟩
  intro n1 w1 hn1 n w2 hn n2 w3 hn2
  have l1 : w.heap.size ≤ n1 := hn1.ge
  have l2 : n1 < n := by have := hn1.size; have := hn.ge; omega
  have l3 : n < n2 := by have := hn.size; have := hn2.ge; omega
  have b1 : w3.drew.heap[n1]? = some (.cells #[.string nb, .string ps, .int .i64 mb, .int .i64 dl, .slice p ds.length c] 24 (0, 0)) := (hn2.kp (fun _ => False)).blk ((hn.kp (fun _ => False)).blk hn1.block (fun h => h)) (fun h => h)
  have b2 := (hn2.kp (fun _ => False)).blk hn.block (fun h => h)
  have b3 := hn2.block
  have k3 : K0 w w3.drew := (((hn1.kp (fun _ => False)).trans (hn.kp _)).trans (hn2.kp _)).drew
  have e40 : (if (40 : Int) < (nb.size : Int) then (40 : Int) else (nb.size : Int)).toNat = min nb.size 40 := by split <;> omega
  have e300 : (if (300 : Int) < (ps.size : Int) then (300 : Int) else (ps.size : Int)).toNat = min ps.size 300 := by split <;> omega
  refine ⟨fun w' => w'.heap[n1]? = some (.cells #[.string nb, .string ps, .int .i64 mb, .int .i64 dl, .slice p ds.length c] 24 (0, 0)), b1, nb, fun w' h => cell_at h rfl, nb, fun w' h => cell_at h rfl, by split <;> omega, ps, fun w' h => cell_at h rfl, ps, fun w' h => cell_at h rfl, by split <;> omega, mb, fun w' h => cell_at h rfl, dl, fun w' h => cell_at h rfl, fun n3 w4 hn4 => ?_⟩
  have b14 := (hn4.kp (fun _ => False)).blk b1 (fun h => h)
  refine ⟨b14, WrL_block hn4.block (by simp), fun w5 hp5 => ?_⟩
  rw [e40, e300] at hp5
  have l4 : n2 < n3 := by have := hn2.size; have : w3.drew.heap.size = w3.heap.size := rfl; have := hn4.ge; omega
  have b45 : w5.heap[n3]? = some (.cells #[.string (nb.extract 0 (min nb.size 40)), .string (ps.extract 0 (min ps.size 300)), .int .i64 mb, .int .i64 dl, .slice none 0 0] 24 (0, 0)) := hp5.full hn4.block rfl
  have b15 := hp5.kp.blk b14 (fun e => by omega)
  have b25 := hp5.kp.blk ((hn4.kp (fun _ => False)).blk (blk_drew b2) (fun h => h)) (fun e => by omega)
  have b35 := hp5.kp.blk ((hn4.kp (fun _ => False)).blk (blk_drew b3) (fun h => h)) (fun e => by omega)
  have k5 : K0 w w5 := (k3.trans (hn4.kp _)).fresh hp5.kp (fun i hi e => by omega)
  have s5 : w5.heap.size = n3 + 1 := by have := hp5.size; have := hn4.size; omega
  clear hn1 hn hn2 hn4 hp5 b14 b1 b2 b3
  refine count1 (min ds.length 10) (by omega) (fun k w' => ∃ p' c', w'.heap[n3]? = some (.cells #[.string (nb.extract 0 (min nb.size 40)), .string (ps.extract 0 (min ps.size 300)), .int .i64 mb, .int .i64 dl, .slice p' k c'] 24 (0, 0)) ∧ w'.ownsRow w5.heap.size 9 1 (.slice p' k c') k ((ds.take k).map Value.string) ∧ Kp (· = n3) w5 w') ⟨none, 0, b45, World.ownsRow_nil _ _ _ _, .refl _ _⟩ ?_
  rintro I m k w6 hk ⟨p', c', b46, ho, hk6⟩ next
  have b16 := hk6.blk b15 (fun e => by omega)
  have k6 : K0 w w6 := k5.fresh hk6 (fun i hi e => by omega)
  refine ⟨p, ds.length, c, cell_at b16 rfl, bsp_intro (fun hlt => ?_) (fun hge => ?_)⟩
  · have hlt' : k < min ds.length 10 := by simp at hlt; omega
    obtain ⟨z, hz⟩ : ∃ z, ds[k]? = some z := ⟨_, List.getElem?_eq_getElem (by omega)⟩
    have htk : ds.take (k + 1) = ds.take k ++ [z] := by rw [List.take_add_one, hz]; rfl
    obtain ⟨bz, oz, rfl, hcz⟩ := hds k z hz
    have e0 : (k : Int).toNat = k := by omega
    refine ⟨fun w' => K0 w6.drew w', .refl _ _, p', k, c', fun w' h => cell_at (h.blk (blk_drew b46) (fun h => h)) rfl, some ⟨bz, oz, none⟩, ds.length, c, fun w' h => cell_at (h.blk (blk_drew b16) (fun h => h)) rfl, ?_⟩
    show (0 ≤ (k : Int) ∧ (k : Int) < (ds.length : Int)) ∧ _
    rw [e0]
    refine ⟨⟨by omega, by omega⟩, z, fun w' h => (k6.drew.trans h).cell' hcz (fun h => h), fun n6 w7 hn7 => ⟨hn7.kp _, ?_⟩⟩
    have ho6 : w6.drew.ownsRow w5.heap.size 9 1 (.slice p' k c') k ((ds.take k).map Value.string) := ho
    refine app1 ho6 hk6.size hn7 rfl (fun u hu => by simp at hu; subst hu; rfl) (by omega) (by omega) (fun p2 c2 w8 ho8 hk8 _ => ?_)
    have b48 := hk8.blk (blk_drew b46) (fun e => by have := own_ge ho6 e; omega)
    refine ⟨cell_wr b48 (by simp), fun w9 hp9 => next hlt' w9 ⟨p2, c2, hp9.block b48, ?_, ?_⟩⟩
    · rw [htk, List.map_append]
      exact owns_kp ho8 hp9.kp (fun k hk e => by have := own_ge ho8 hk; omega)
    · exact ((hk6.drew.fresh hk8 (fun i hi e => by have := own_ge ho6 e; omega)).trans hp9.kp)
  · have hkk : k = min ds.length 10 := by simp at hge; omega
    have htk : ds.take k = ds.take 10 := by
      rw [hkk]
      rcases Nat.le_total ds.length 10 with h | h
      · rw [Nat.min_eq_left h, List.take_length, List.take_of_length_le h]
      · rw [Nat.min_eq_right h]
    have hkl : k = (ds.take 10).length := by rw [List.length_take]; omega
    rw [htk] at ho
    subst hkl
    clear hkk htk
    have b26 := hk6.blk b25 (fun e => by omega)
    have b36 := hk6.blk b35 (fun e => by omega)
    refine ⟨fun w' => w'.heap[n3]? = some (.cells #[.string (nb.extract 0 (min nb.size 40)), .string (ps.extract 0 (min ps.size 300)), .int .i64 mb, .int .i64 dl, .slice p' (ds.take 10).length c'] 24 (0, 0)), blk_drew b46, _, fun w' h => cell_at h rfl, _, fun w' h => cell_at h rfl, mb, fun w' h => cell_at h rfl, dl, fun w' h => cell_at h rfl, p', (ds.take 10).length, c', fun w' h => cell_at h rfl, _, _, mb, dl, p', (ds.take 10).length, c', fun w' h => AtL_block h rfl, fun n7 w7 hn7 => ?_⟩
    have k7 := hn7.kp (fun _ => False)
    have b47 := k7.blk (blk_drew b46) (fun h => h)
    have hlt6 := block_lt b46
    have hz6 : w6.drew.heap.size = w6.heap.size := rfl
    have g7 := hn7.ge
    obtain ⟨_, _, hstr, _, _⟩ := own_strP ho
    have hlen : (ds.take 10).length ≤ 10 := by rw [List.length_take]; omega
    refine ⟨b47, app0 hn7 ((show StrP w6.drew p' (ds.take 10) from hstr).kp k7 (fun _ _ _ h => h)) (by omega) (by omega) rfl (fun q c7 w8 ho8 hk8 => ?_)⟩
    simp only [Nat.zero_add] at ho8 ⊢
    have b48 := hk8.blk (blk_drew b46) (fun h => h)
    have b28 := hk8.blk (blk_drew b26) (fun h => h)
    have b38 := hk8.blk (blk_drew b36) (fun h => h)
    refine ⟨b48, WrL_block b28 (by simp), fun w9 hp9 => ?_⟩
    have b49 := hp9.kp.blk b48 (fun e => by omega)
    have b29 := hp9.full b28 rfl
    have b39 := hp9.kp.blk b38 (fun e => by omega)
    refine ⟨b49, WrL_block b39 (by simp), fun wa hpa => ⟨n, n2, q, p', c7, c', rfl, hpa.kp.blk b29 (fun e => by omega), hpa.full b39 rfl, ?_, ?_, ?_, ?_⟩⟩
    · refine own_base (owns_kp (owns_kp ho8 hp9.kp (fun k hk e => ?_)) hpa.kp (fun k hk e => ?_)) (by have := k6.size; omega)
      · have := own_ge ho8 hk; omega
      · have := own_ge ho8 hk; omega
    · refine own_base (owns_kp (owns_kp (owns_kp (show w6.drew.ownsRow _ _ _ _ _ _ from ho) hk8 (fun _ _ h => h)) hp9.kp (fun k hk e => ?_)) hpa.kp (fun k hk e => ?_)) (by have := k5.size; omega)
      · have := own_ge ho hk; omega
      · have := own_ge ho hk; omega
    · intro k hk1 hk2
      have := own_ge ho8 hk1
      have := own_lt ho hk2
      omega
    · exact ((k6.drew.trans hk8).fresh hp9.kp (fun i hi e => by omega)).fresh hpa.kp (fun i hi e => by omega)

def It.cut (x : It) : It := { x with gs := x.gs.take 20 }
set_option maxHeartbeats 1000000 in
theorem item_any (x : It) (p : Option Addr) (c : Nat) (w : World) (hg : StrP w p x.gs) (hc : x.gs.length ≤ c) :
    Calls Tryz.prog 23 #[.agg (x.cells p c)] w fun e w' => ∃ (p1 p2 : Option Addr) (c1 c2 : Nat),
      e = .returned (.tuple #[.agg (x.cut.cells p1 c1), .agg (x.cut.cells p2 c2)]) ∧
      w'.ownsRow w.heap.size 9 1 (.slice p1 x.cut.gs.length c1) x.cut.gs.length (x.cut.gs.map Value.string) ∧ w'.ownsRow w.heap.size 9 1 (.slice p2 x.cut.gs.length c2) x.cut.gs.length (x.cut.gs.map Value.string) ∧ K0 w w' := by
  refine vc_litem (x.cells p c) w _ ?_
  refine ⟨fun vs w' => ∃ (n n2 : Nat) (p1 p2 : Option Addr) (c1 c2 : Nat), vs = [.pointer (some ⟨n, 0, none⟩), .pointer (some ⟨n2, 0, none⟩)] ∧
      w'.heap[n]? = some (.cells (x.cut.cells p1 c1) 53 (0, 0)) ∧ w'.heap[n2]? = some (.cells (x.cut.cells p2 c2) 70 (0, 0)) ∧
      w'.ownsRow w.heap.size 9 1 (.slice p1 x.cut.gs.length c1) x.cut.gs.length (x.cut.gs.map Value.string) ∧ w'.ownsRow w.heap.size 9 1 (.slice p2 x.cut.gs.length c2) x.cut.gs.length (x.cut.gs.map Value.string) ∧ K0 w w', ?_, ?_⟩
  rotate_left
  · rintro y y1 w' ⟨n, n2, p1, p2, c1, c2, hv, hb, hb2, ho, ho2, hk⟩
    simp only [List.cons.injEq, Value.pointer.injEq, and_true] at hv
    obtain ⟨rfl, rfl⟩ := hv
    exact ⟨x.id, p1, x.cut.gs.length, c1, x.d, x.by_, x.ct, x.fr, x.ar, AtL_block hb rfl, x.id, p2, x.cut.gs.length, c2, x.d, x.by_, x.ct, x.fr, x.ar, AtL_block hb2 rfl, p1, p2, c1, c2, rfl, ho, ho2, hk⟩
  intro n w1 hn n1 w2 hn1 n2 w3 hn2 n3 w4 hn3
  have l0 : w.heap.size ≤ n := hn.ge
  have l1 : n < n1 := by have := hn.size; have := hn1.ge; omega
  have l2 : n1 < n2 := by have := hn1.size; have := hn2.ge; omega
  have l3 : n2 < n3 := by have := hn2.size; have := hn3.ge; omega
  have k3 : K0 w w3 := ((hn.kp (fun _ => False)).trans (hn1.kp _)).trans (hn2.kp _)
  have q1 := (hn1.kp (fun _ => False)).trans (hn2.kp (fun _ => False))
  have q2 := hn2.kp (fun _ => False)
  have q3 := hn3.kp (fun _ => False)
  have b0 := q1.blk hn.block (fun h => h)
  have b1 := q2.blk hn1.block (fun h => h)
  have b2 := hn2.block
  have k4 : K0 w w4 := k3.trans q3
  have b04 := q3.blk b0 (fun h => h)
  have e20 : (if (20 : Int) < (x.gs.length : Int) then (20 : Int) else (x.gs.length : Int)).toNat = (x.gs.take 20).length := by rw [List.length_take]; split <;> omega
  have hl20 : (x.gs.take 20).length ≤ 20 := by rw [List.length_take]; omega
  refine ⟨p, x.gs.length, c, cell_at b04 rfl, p, x.gs.length, c, cell_at b04 rfl, by split <;> omega, ?_⟩
  rw [e20]
  have hg4 : StrP w4 p (x.gs.take 20) := fun j z hj => by
    rw [List.getElem?_take] at hj
    split at hj
    · exact (hg.kp k4 (fun _ _ _ h => h)) j z hj
    · cases hj
  refine app0 hn3 hg4 (by omega) (by omega) rfl (fun p5 c5 w5 ho5 hk5 => ?_)
  rw [Nat.zero_add] at ho5
  have b05 := hk5.blk b0 (fun h => h)
  refine ⟨cell_wr b05 (by rw [It.size]; decide), fun w6 hp6 => ?_⟩
  rw [Nat.zero_add (List.take 20 x.gs).length] at hp6
  have b06 : w6.heap[n]? = some (.cells (x.cut.cells p5 c5) 70 (0, 0)) := hp6.block b05
  have b16 := hp6.kp.blk (hk5.blk b1 (fun h => h)) (fun e => by omega)
  have b26 := hp6.kp.blk (hk5.blk b2 (fun h => h)) (fun e => by omega)
  have ho6 := owns_kp ho5 hp6.kp (fun k hk e => by have := own_ge ho5 hk; omega)
  have k6 : K0 w w6 := (k3.trans hk5).fresh hp6.kp (fun i hi e => by omega)
  obtain ⟨_, _, hs6, _, _⟩ := own_strP ho6
  have g6 : n2 < w6.heap.size := block_lt b26
  refine ⟨fun w' => w'.heap[n]? = some (.cells (x.cut.cells p5 c5) 70 (0, 0)), blk_drew b06, x.id, fun w' h => AtL_block h rfl, p5, (x.gs.take 20).length, c5, fun w' h => cell_at h rfl, x.d, fun w' h => cell_at h rfl, x.by_, fun w' h => cell_at h rfl, x.ct, fun w' h => cell_at h rfl, x.fr, fun w' h => cell_at h rfl, x.ar, fun w' h => cell_at h rfl,
    x.id, p5, (x.gs.take 20).length, c5, x.d, x.by_, x.ct, x.fr, x.ar, fun w' h => AtL_block h rfl, fun n7 w7 hn7 => ?_⟩
  have k7 := hn7.kp (fun _ => False)
  have g7 : w6.heap.size ≤ n7 := hn7.ge
  refine ⟨k7.blk (blk_drew b06) (fun h => h), app0 hn7 ((show StrP w6.drew p5 (x.gs.take 20) from hs6).kp k7 (fun _ _ _ h => h)) (by omega) (by omega) rfl (fun p8 c8 w8 ho8 hk8 => ?_)⟩
  rw [Nat.zero_add] at ho8
  have b08 := hk8.blk (blk_drew b06) (fun h => h)
  have b18 := hk8.blk (blk_drew b16) (fun h => h)
  have b28 := hk8.blk (blk_drew b26) (fun h => h)
  refine ⟨b08, WrL_block b18 (by simp), fun w9 hp9 => ?_⟩
  rw [Nat.zero_add (List.take 20 x.gs).length] at hp9
  have b09 := hp9.kp.blk b08 (fun e => by omega)
  have b29 := hp9.kp.blk b28 (fun e => by omega)
  have b19 : w9.heap[n1]? = some (.cells (x.cut.cells p8 c8) 53 (0, 0)) := hp9.full b18 rfl
  refine ⟨b09, WrL_block b29 (by simp), fun wa hpa => ⟨n1, n2, p8, p5, c8, c5, rfl, hpa.kp.blk b19 (fun e => by omega), hpa.full b29 rfl, ?_, ?_, ?_⟩⟩
  · refine own_base (owns_kp (owns_kp ho8 hp9.kp (fun k hk e => ?_)) hpa.kp (fun k hk e => ?_)) (by have := k6.size; omega)
    · have := own_ge ho8 hk; omega
    · have := own_ge ho8 hk; omega
  · refine own_base (owns_kp (owns_kp (owns_kp (show w6.drew.ownsRow _ _ _ _ _ _ from ho6) hk8 (fun _ _ h => h)) hp9.kp (fun k hk e => ?_)) hpa.kp (fun k hk e => ?_)) (by omega)
    · have := own_ge ho6 hk; omega
    · have := own_ge ho6 hk; omega
  · exact ((k6.drew.trans hk8).fresh hp9.kp (fun i hi e => by omega)).fresh hpa.kp (fun i hi e => by omega)

end Go.Proofs.YtcpjajjocmpkjaaGreatDoor

/- The contract of feedrule's Select, by plain functions. -/
namespace Go.Proofs.YtcpjajjocmpkjaaGreatDoor
open Go.RowKit Go.Maps

abbrev ItA := It × Option Addr × Nat
def itC (y : ItA) : List Value := (y.1.cells y.2.1 y.2.2).toList
theorem itC_length (y : ItA) : (itC y).length = 38 := rfl
/-- Items in the memory. -/
structure ItR (T : TypeId) (base : Nat) (w : World) (p : Option Addr) (n c : Nat) (L : List ItA) : Prop where
  len : n = L.length
  row : w.ownsRow base T 38 (.slice p n c) n (L.flatMap itC)
  gs : ∀ y ∈ L, w.ownsRow base 9 1 (.slice y.2.1 y.1.gs.length y.2.2) y.1.gs.length (y.1.gs.map Value.string)
theorem ItR.kp {T : TypeId} {base : Nat} {w w' : World} {p : Option Addr} {n c : Nat} {L : List ItA} (h : ItR T base w p n c L) (hk : K0 w w') : ItR T base w' p n c L :=
  ⟨h.len, owns_kp h.row hk (fun _ _ h => h), fun y hy => owns_kp (h.gs y hy) hk (fun _ _ h => h)⟩
theorem ItR.at_ {T : TypeId} {base : Nat} {w : World} {p : Option Addr} {n c : Nat} {L : List ItA} (h : ItR T base w p n c L) {k : Nat} {y : ItA} (hy : L[k]? = some y) : ∃ g, p = some ⟨g, 0, none⟩ ∧ AtL w g (0 + k * 38) (itC y) := by
  have key : ∀ j v, (itC y)[j]? = some v → ∃ g, p = some ⟨g, 0, none⟩ ∧ w.cell? ⟨g, k * 38 + j, none⟩ = some v := fun j v hv => own_cellL h.row (by
    have hj : j < 38 := by rw [← itC_length y]; exact (List.getElem?_eq_some_iff.1 hv).1
    rw [flat_get itC 38 L k y j (fun z _ => itC_length z) hy hj]; exact hv)
  obtain ⟨g, hp, _⟩ := key 0 _ (List.getElem?_eq_getElem (by rw [itC_length]; decide))
  refine ⟨g, hp, ⟨At_of _ _ fun j v hv => ?_⟩⟩
  obtain ⟨g', hp', hc⟩ := key j v hv
  rw [hp] at hp'
  simp only [Option.some.injEq, Addr.mk.injEq, and_true] at hp'
  subst hp'
  rw [Nat.zero_add]; exact hc
/-- The candidates. -/
def candsOf (nb : ByteArray) (mb dl : Int) (ds : List ByteArray) (es : List Ent) (now : Int) (l : List It) : List Cand :=
  l.filterMap fun x => if rsnS nb mb ds es x = 0 ∧ dueS dl x.ar ≤ now then some (dueS dl x.ar, x.id) else none
/-- Without those that are there. -/
def ddS : List (List Int) → List (List Int) → List (List Int)
  | acc, [] => acc
  | acc, x :: r => if x ∈ acc then ddS acc r else ddS (acc ++ [x]) r
theorem ddS_cons (acc : List (List Int)) (x : List Int) (r : List (List Int)) : ddS acc (x :: r) = if x ∈ acc then ddS acc r else ddS (acc ++ [x]) r := rfl
def byL (l : List Int) : List Value := l.map (Value.int .u8)
theorem ddS_mem : ∀ (l acc : List (List Int)) (x : List Int), x ∈ ddS acc l ↔ x ∈ acc ∨ x ∈ l
  | [], acc, x => by simp [ddS]
  | y :: r, acc, x => by
    unfold ddS
    split
    · rename_i h
      rw [ddS_mem r acc x, List.mem_cons]
      constructor
      · rintro (h1 | h1)
        · exact .inl h1
        · exact .inr (.inr h1)
      · rintro (h1 | h1 | h1)
        · exact .inl h1
        · subst h1; exact .inl h
        · exact .inr h1
    · rw [ddS_mem r _ x, List.mem_append, List.mem_singleton, List.mem_cons, or_assoc]
theorem candsOf_len (nb : ByteArray) (mb dl : Int) (ds : List ByteArray) (es : List Ent) (now : Int) (l : List It) : (candsOf nb mb dl ds es now l).length ≤ l.length := List.length_filterMap_le _ _
theorem aget_trues {α : Type} [DecidableEq α] (acc : List α) (a : α) : aget (acc.map fun x => (x, Value.bool true)) a = if a ∈ acc then some (.bool true) else none := by
  induction acc with
  | nil => rfl
  | cons y r ih =>
    rw [List.map_cons]
    unfold aget
    by_cases h : y = a
    · subst h; simp
    · rw [if_neg h, ih]
      simp only [List.mem_cons]
      have : ¬ a = y := fun e => h e.symm
      simp [this]
theorem zeroBool (w : World) : (zeroValue 4).run Tryz.prog w = .ok (.bool false) w := by kernel_rfl
theorem idKeyed : Keyed Tryz.prog 43 := Keyed.of_law (deep_law (m := 3) (by omega) (by kernel_rfl) (by kernel_rfl) (by kernel_rfl))
theorem idKey {l : List Int} (hl : l.length = 32) (hb : ∀ x ∈ l, 0 ≤ x ∧ x ≤ 255) : keyOf Tryz.prog 43 (byA l) = some (.string (keyBytes (l.map (Lit.int .u8)))) :=
  keyOf_bytes Tryz.underlying43 Tryz.underlying5 (by kernel_rfl) (by kernel_rfl) (by kernel_rfl) (by decide +kernel) hl hb
theorem idEq {l l' : List Int} (hl : l.length = 32) (hb : ∀ x ∈ l, 0 ≤ x ∧ x ≤ 255) (hl' : l'.length = 32) (hb' : ∀ x ∈ l', 0 ≤ x ∧ x ≤ 255) : EqP Tryz.prog 43 (byA l) (byA l') (decide (l = l')) :=
  eq_bytes Tryz.underlying43 Tryz.underlying5 (by kernel_rfl) (by kernel_rfl) (by kernel_rfl) (by decide +kernel) (by kernel_rfl) (by kernel_rfl) hl hb hl' hb'
theorem idI_len (f : Nat → Int) : (idI f).length = 32 := by simp [idI]
theorem idI_bd {f : Nat → Int} (h : ∀ j, 0 ≤ f j ∧ f j ≤ 255) : ∀ x ∈ idI f, 0 ≤ x ∧ x ≤ 255 := fun x hx => by
  obtain ⟨j, _, rfl⟩ := List.mem_map.1 hx
  exact h j

end Go.Proofs.YtcpjajjocmpkjaaGreatDoor

/- Sorted permutations are equal; insertion keeps the order (plain). No condition. -/
namespace Go.Proofs.YtcpjajjocmpkjaaGreatDoor
open Go.Sort

theorem perm_sorted_eq {β : Type} {R : β → β → Prop} (anti : ∀ x y, R x y → R y x → x = y) : ∀ (L L' : List β), L.Perm L' → L.Pairwise R → L'.Pairwise R → L = L'
  | [], L', h, _, _ => (List.nil_perm.1 h).symm
  | a :: r, [], h, _, _ => by have := h.length_eq; simp at this
  | a :: r, b :: r', h, h1, h2 => by
    have e : a = b := by
      by_cases e : a = b
      · exact e
      · have ha : a ∈ r' := by
          have : a ∈ b :: r' := h.mem_iff.1 List.mem_cons_self
          rcases List.mem_cons.1 this with h | h
          · exact absurd h e
          · exact h
        have hb : b ∈ r := by
          have : b ∈ a :: r := h.mem_iff.2 List.mem_cons_self
          rcases List.mem_cons.1 this with h | h
          · exact absurd h.symm e
          · exact h
        exact anti a b ((List.pairwise_cons.1 h1).1 b hb) ((List.pairwise_cons.1 h2).1 a ha)
    subst e
    congr 1
    exact perm_sorted_eq anti r r' h.cons_inv (List.pairwise_cons.1 h1).2 (List.pairwise_cons.1 h2).2
/-- The key of a candidate. -/
abbrev Key := Int × List UInt8
def cfK (x y : Key) : Int := if (if x.1 < y.1 then (-1 : Int) else if y.1 < x.1 then 1 else 0) ≠ 0 then (if x.1 < y.1 then (-1 : Int) else if y.1 < x.1 then 1 else 0) else Lib.compareBytes x.2 y.2
theorem cfK_ord : Ord3 cfK := (ci_ord (fun x : Key => x.1)).thn (cb_ord (fun x : Key => x.2)) (fun x y z h1 h2 => by split at h1 <;> split at h2 <;> split <;> omega)
theorem cfK_zero {x y : Key} (h : cfK x y = 0) : x = y := by
  by_cases h1 : x.1 < y.1
  · simp [cfK, h1] at h
  · by_cases h2 : y.1 < x.1
    · simp [cfK, h1, h2] at h
    · have e1 : x.1 = y.1 := by omega
      simp [cfK, h1, h2] at h
      exact Prod.ext e1 (cb_zero _ _ h)
theorem cfK_lt (x y : Key) : cfK x y < 0 ↔ x.1 < y.1 ∨ x.1 = y.1 ∧ Lib.compareBytes x.2 y.2 < 0 := by
  by_cases h1 : x.1 < y.1
  · simp [cfK, h1]
  · by_cases h2 : y.1 < x.1
    · have : ¬ x.1 = y.1 := by omega
      simp [cfK, h1, h2, this]
    · have e1 : x.1 = y.1 := by omega
      simp [cfK, e1]
def keyC (x : Cand) : Key := (x.1, idB x.2)
theorem keys_eq {L L' : List Key} (h : L.Perm L') (h1 : L.Pairwise fun x y => ¬ cfK y x < 0) (h2 : L'.Pairwise fun x y => ¬ cfK y x < 0) : L = L' :=
  perm_sorted_eq (R := fun x y => ¬ cfK y x < 0) (fun x y a b => by
    have := cfK_ord.anti x y
    exact cfK_zero (by omega)) L L' h h1 h2
theorem cfC_key (x y : Cand) : cfC x y = cfK (keyC x) (keyC y) := rfl
/-- A new one goes behind all that it does not precede. -/
theorem ins_sorted {L : List Key} {x : Key} {k : Nat} (hs : L.Pairwise fun x y => ¬ cfK y x < 0) (h1 : ∀ y ∈ L.drop k, cfK x y < 0) (h2 : ∀ y, L[k - 1]? = some y → k ≠ 0 → ¬ cfK x y < 0) (hk : k ≤ L.length) :
    (L.take k ++ (x :: L.drop k)).Pairwise fun x y => ¬ cfK y x < 0 := by
  have hord := cfK_ord
  rw [← List.take_append_drop k L, List.pairwise_append] at hs
  obtain ⟨a, b, c⟩ := hs
  rw [List.pairwise_append, List.pairwise_cons]
  have lo : ∀ y ∈ L.take k, ¬ cfK x y < 0 := by
    intro y hy hlt
    have hk0 : k ≠ 0 := by rintro rfl; simp at hy
    obtain ⟨z, hz⟩ : ∃ z, L[k - 1]? = some z := ⟨_, List.getElem?_eq_getElem (by omega)⟩
    have hzx := h2 z hz hk0
    obtain ⟨i, hi, rfl⟩ := List.getElem_of_mem hy
    have hi' : i < k := by rw [List.length_take] at hi; omega
    have hik : i = k - 1 ∨ i < k - 1 := by omega
    have hy1 : (L.take k)[i] = L[i]'(by omega) := List.getElem_take
    rcases hik with rfl | hik
    · rw [List.getElem?_eq_getElem (by omega)] at hz
      simp at hz
      rw [hy1, hz] at hlt
      exact hzx hlt
    · have hp := List.pairwise_iff_getElem.1 a i (k - 1) hi (by rw [List.length_take]; omega) hik
      have hz1 : (L.take k)[k - 1]'(by rw [List.length_take]; omega) = z := by
        rw [List.getElem_take]
        rw [List.getElem?_eq_getElem (by omega)] at hz
        simpa using hz
      rw [hz1] at hp
      have a1 := hord.anti x z
      have a2 := hord.anti z (L.take k)[i]
      -- x < y, y ≤ z, so x < z
      rcases Int.lt_or_eq_of_le (show cfK (L.take k)[i] z ≤ 0 by have := hord.anti z (L.take k)[i]; omega) with q | q
      · exact hzx (hord.tlt _ _ _ hlt q)
      · exact hzx (hord.le _ _ _ hlt q)
  refine ⟨a, ⟨fun y hy hc => ?_, b⟩, fun y hy z hz => ?_⟩
  · have := h1 y hy
    have := hord.anti x y
    omega
  · rcases List.mem_cons.1 hz with rfl | hz
    · exact lo y hy
    · exact c y hy z hz

end Go.Proofs.YtcpjajjocmpkjaaGreatDoor

/- The contracts of the reference's has, Check, Reason and Due: they agree with the program's plain functions. Names have at most 2^47 bytes. -/
namespace Go.Proofs.YtcpjajjocmpkjaaGreatDoor
open Go.RowKit

theorem toList_beq (a b : ByteArray) : (a.toList == b.toList) = decide (a = b) := by
  rw [ByteArray.toList_eq, ByteArray.toList_eq, Bool.eq_iff_iff]
  simp only [beq_iff_eq, decide_eq_true_eq]
  constructor
  · intro h
    cases a; cases b
    congr 1
    exact Array.toList_inj.1 h
  · rintro rfl; rfl
theorem containsS_snoc (zs : List ByteArray) (z s : ByteArray) : Lib.containsS (zs ++ [z]) s = (Lib.containsS zs s || decide (z = s)) := by
  rw [Bool.eq_iff_iff, Bool.or_eq_true, Lib.containsS_iff, Lib.containsS_iff, decide_eq_true_eq, List.mem_append, List.mem_singleton]
  constructor
  · rintro (h | h)
    · exact .inl h
    · exact .inr h.symm
  · rintro (h | h)
    · exact .inl h
    · exact .inr h.symm
theorem has_any (p : Option Addr) (c : Nat) (zs : List ByteArray) (n : Nat) (s : ByteArray) (w : World) (hz : StrP w p zs) (hn : n ≤ zs.length) (hl : zs.length ≤ 9223372036854775807) :
    Calls Tryz.prog 22 #[.slice p n c, .string s] w fun e w' => e = .returned (.bool (Lib.containsS (zs.take n) s)) ∧ w' = w := by
  refine vc_has p n c s w _ ?_
  refine count1 n (by omega) (fun k w' => Lib.containsS (zs.take k) s = false ∧ w' = w) ⟨?_, rfl⟩ ?_
  · cases h : Lib.containsS (zs.take 0) s with
    | false => rfl
    | true => rw [Lib.containsS_iff] at h; simp at h
  rintro I m k w' hk ⟨hno, rfl⟩ next
  refine bsp_intro (fun hlt => ?_) (fun hge => ?_)
  · have hlt : k < n := by simpa using hlt
    obtain ⟨z, hzk⟩ : ∃ z, zs[k]? = some z := ⟨_, List.getElem?_eq_getElem (by omega)⟩
    have htk : zs.take (k + 1) = zs.take k ++ [z] := by rw [List.take_add_one, hzk]; rfl
    obtain ⟨b, o, rfl, hc⟩ := hz k z hzk
    show (0 ≤ (k : Int) ∧ (k : Int) < (n : Int)) ∧ _
    rw [Int.toNat_natCast]
    refine ⟨by omega, z, hc, ?_⟩
    rw [toList_beq]
    refine bsp_intro (fun he => ⟨?_, rfl⟩) (fun he => next hlt w' ⟨?_, rfl⟩)
    · have he : z = s := by simpa using he
      have : Lib.containsS (zs.take n) s = true := by
        rw [Lib.containsS_iff, ← he]
        exact List.mem_of_getElem? (i := k) (by rw [List.getElem?_take, if_pos hlt]; exact hzk)
      rw [this]
    · rw [htk, containsS_snoc, hno, he]; rfl
  · have : k = n := by simp at hge; omega
    subst this
    exact ⟨by rw [hno], rfl⟩

set_option maxHeartbeats 1000000 in
theorem rcheck_any (nb ps : ByteArray) (mb dl : Int) (p : Option Addr) (c : Nat) (ds : List ByteArray) (w : World) (hps : ps.size ≤ 1073741824) (hds : StrP w p ds) (hc : ds.length ≤ c) (hl : ds.length ≤ 1073741824) (hz : ∀ z ∈ ds, z.size ≤ 9223372036854775807) :
    Calls Tryz.prog 7 #[.agg #[.string nb, .string ps, .int .i64 mb, .int .i64 dl, .slice p ds.length c]] w fun e w' => e = .returned (.int .i64 (chkS nb ps mb dl ds)) ∧ K0 w w' := by
  refine vc_rcheck nb ps mb dl p ds.length c w _ ?_
  intro n w1 hn
  have hk1 : K0 w w1 := hn.kp _
  refine ⟨nb, cell_at hn.block rfl, ⟨(refSite_any nb w1).mono fun e w2 ⟨he, hw⟩ => ⟨_, _, he, ?_⟩⟩⟩
  subst hw
  generalize hsi : (siteS nb).2 = si
  generalize (siteS nb).1 = si1
  refine bsp_intro (fun h => ⟨?_, hk1⟩) (fun h => ?_)
  · have h : si ≠ 0 := by simpa using h
    simp [chkS, hsi, h]
  have h : si = 0 := by simpa using h
  refine ⟨ps, cell_at hn.block rfl, ⟨(rparseList_any ps w2 hps).mono fun e w3 ⟨hk3, he⟩ => ?_⟩⟩
  have hk13 : K0 w w3 := hk1.trans hk3
  have hb3 := hk3.blk hn.block (fun h => h)
  cases hL : listR ps with
  | inr oe =>
    obtain ⟨o, er⟩ := oe
    rw [hL] at he
    refine ⟨_, _, _, o, er, he, ?_⟩
    have := listR_err hL
    refine bsp_intro (fun _ => ⟨?_, hk13⟩) (fun h => absurd h (by simpa using this))
    simp [chkS, hsi, h, hL]
  | inl es =>
    rw [hL] at he
    obtain ⟨lp, ln, lc, LL, he, _⟩ := he
    refine ⟨_, _, _, _, _, he, ?_⟩
    refine bsp_intro (fun h => absurd h (by decide)) (fun _ => ?_)
    have c2 : w3.cell? ⟨n, 0 + 2, none⟩ = some (.int .i64 mb) := cell_at hb3 rfl
    have c3 : w3.cell? ⟨n, 0 + 3, none⟩ = some (.int .i64 dl) := cell_at hb3 rfl
    have c4 : w3.cell? ⟨n, 0 + 4, none⟩ = some (.slice p ds.length c) := cell_at hb3 rfl
    refine ⟨mb, c2, mb, gimp_intro fun _ => c2, dl, gimp_intro fun _ => c3, dl, gimp_intro fun _ => c3, ?_⟩
    refine bsp_intro (fun hr => ⟨?_, hk13⟩) (fun hr => ?_)
    · have hr : mb < 0 ∨ 65536 < mb ∨ dl < 0 ∨ 20160 < dl := by simp at hr; omega
      simp [chkS, hsi, h, hL, hr]
    have hr : ¬ (mb < 0 ∨ 65536 < mb ∨ dl < 0 ∨ 20160 < dl) := by simp at hr; omega
    refine ⟨p, ds.length, c, c4, ?_⟩
    refine bsp_intro (fun h8 => ⟨?_, hk13⟩) (fun h8 => ?_)
    · have h8 : 8 < ds.length := by simp at h8; omega
      simp [chkS, hsi, h, hL, hr, h8]
    have h8 : ¬ 8 < ds.length := by simp at h8; omega
    have hR : chkS nb ps mb dl ds = dstS [] ds := by simp [chkS, hsi, h, hL, hr, h8]
    rw [hR]
    refine count1 ds.length (by omega) (fun k w4 => dstS [] ds = dstS (ds.take k) (ds.drop k) ∧ K0 w3 w4) ⟨rfl, .refl _ _⟩ ?_
    intro I m k w4 hk ⟨hS, hk4⟩ next
    have c4' : ∀ wx, K0 w3 wx → wx.cell? ⟨n, 0 + 4, none⟩ = some (.slice p ds.length c) := fun wx hx => cell_at (hx.blk hb3 (fun h => h)) rfl
    refine ⟨p, ds.length, c, c4' w4 hk4, bsp_intro (fun hlt => ?_) (fun hge => ?_)⟩
    · have hlt : k < ds.length := by simpa using hlt
      obtain ⟨z, hzk⟩ : ∃ z, ds[k]? = some z := ⟨_, List.getElem?_eq_getElem hlt⟩
      have hdr : ds.drop k = z :: ds.drop (k + 1) := by
        rw [List.drop_eq_getElem_cons hlt]
        rw [List.getElem?_eq_getElem hlt] at hzk
        simp at hzk
        rw [hzk]
      have htk : ds.take (k + 1) = ds.take k ++ [z] := by rw [List.take_add_one, hzk]; rfl
      rw [hdr] at hS
      have hd4 := hds.kp (hk13.trans hk4) (fun _ _ _ h => h)
      obtain ⟨b1, o1, rfl, hcz⟩ := hd4 k z hzk
      refine ⟨_, ds.length, c, c4' w4 hk4, ?_⟩
      show (0 ≤ (k : Int) ∧ (k : Int) < (ds.length : Int)) ∧ _
      rw [Int.toNat_natCast]
      refine ⟨by omega, z, hcz, ⟨(word_any z (by have := hz z (List.mem_of_getElem? hzk); omega) w4).mono fun e w5 ⟨he, hw⟩ => ⟨_, he, ?_⟩⟩⟩
      subst hw
      refine bsp_intro (fun hd => ⟨?_, hk13.trans hk4⟩) (fun hd => ?_)
      · have hd : distB z = false := by simpa using hd
        rw [hS]; simp [dstS, hd]
      have hd : distB z = true := by simpa using hd
      have hk5 := hk4.drew
      refine ⟨some ⟨b1, o1, none⟩, ds.length, c, c4' _ hk5, ⟨by omega, by omega⟩, some ⟨b1, o1, none⟩, ds.length, c, c4' _ hk5, ?_⟩
      show (0 ≤ (k : Int) ∧ (k : Int) < (ds.length : Int)) ∧ _
      refine ⟨by omega, z, hcz, ?_⟩
      refine ⟨(has_any (some ⟨b1, o1, none⟩) c ds k z w5.drew hd4 (by omega) (by omega)).mono fun e w6 ⟨he, hw⟩ => ⟨_, he, ?_⟩⟩
      subst hw
      refine bsp_intro (fun hcn => ⟨?_, hk13.trans hk5⟩) (fun hcn => ?_)
      · rw [hS]; simp [dstS, hd, hcn]
      · refine next hlt _ ⟨?_, hk5⟩
        rw [hS, htk]; simp [dstS, hd, hcn]
    · have hge : ¬ k < ds.length := by simpa using hge
      obtain rfl : k = ds.length := by omega
      refine ⟨?_, hk13.trans hk4⟩
      rw [hS, List.drop_length]; rfl

theorem relEs_len {es : List Ent} {L : List RItA} (h : RelEnts es (L.map (·.1))) (h64 : es.length ≤ 64) (h80 : ∀ e ∈ es, e.els.length ≤ 80) : L.length ≤ 64 ∧ ∀ x ∈ L, x.1.rs.length ≤ 80 := by
  have hl := h.len
  rw [List.length_map] at hl
  refine ⟨by omega, fun x hx => ?_⟩
  obtain ⟨j, hj, rfl⟩ := List.getElem_of_mem hx
  have hj' : j < es.length := by omega
  have := (h.at_ j es[j] L[j].1 (List.getElem?_eq_getElem hj') (by simp [hj])).els.len
  rw [← this]
  exact h80 _ (List.getElem_mem hj')
set_option maxHeartbeats 1000000 in
theorem rreason_any (nb ps : ByteArray) (mb dl : Int) (p : Option Addr) (c : Nat) (ds : List ByteArray) (x : It) (q : Option Addr) (d : Nat) (es : List Ent) (w : World) (hps : ps.size ≤ 1073741824) (hL : listR ps = .inl es) (hds : StrP w p ds) (hl : ds.length ≤ 1073741824) (hg : StrP w q x.gs) (hgl : x.gs.length ≤ 1073741824) (hgz : ∀ z ∈ x.gs, z.size ≤ 140737488355328) :
    Calls Tryz.prog 29 #[.agg #[.string nb, .string ps, .int .i64 mb, .int .i64 dl, .slice p ds.length c], .agg (x.cells q d)] w fun e w' => e = .returned (.int .i64 (rsnS nb mb ds es x)) ∧ K0 w w' := by
  refine vc_rreason nb ps mb dl p ds.length c (x.cells q d) w _ ?_
  intro n w1 hn n1 w2 hn1
  have hb := (hn1.kp (fun _ => False)).blk hn.block (fun h => h)
  have hb1 := hn1.block
  have k2 : K0 w w2 := (hn.kp (fun _ => False)).trans (hn1.kp _)
  refine ⟨x.fr, cell_at hb1 rfl, nb, cell_at hb rfl, bsp_intro (fun h1 => ⟨?_, k2⟩) (fun h1 => ⟨x.ct, cell_at hb1 rfl, bsp_intro (fun hc => ⟨?_, k2⟩) (fun hc => ?_)⟩)⟩
  · unfold rsnS; rw [if_pos (show rsnB nb mb ds es x 1 = true from h1)]
  · unfold rsnS; rw [if_neg (by rw [show rsnB nb mb ds es x 1 = false from h1]; decide)]
    simp [rsnB, hc]
  have e1 : rsnS nb mb ds es x = if rsnB nb mb ds es x 2 = true then 2 else if rsnB nb mb ds es x 3 = true then 3 else if rsnB nb mb ds es x 4 = true then 4 else 0 := by
    unfold rsnS; rw [if_neg (by rw [show rsnB nb mb ds es x 1 = false from h1]; decide)]
  rw [e1]
  obtain ⟨h64, h80⟩ := listR_ok hL
  refine ⟨ps, cell_at hb rfl, ⟨(rparseList_any ps w2 hps).mono fun e w3 ⟨hk3, he⟩ => ?_⟩⟩
  rw [hL] at he
  obtain ⟨lp, ln, lc, LL, he, hRL, hrel⟩ := he
  obtain ⟨l64, l80⟩ := relEs_len hrel h64 h80
  have k3 : K0 w w3 := k2.trans hk3
  have hb3 := hk3.blk hb (fun h => h)
  have hb13 := hk3.blk hb1 (fun h => h)
  refine ⟨_, _, _, _, _, he, q, x.gs.length, d, cell_at hb13 rfl, ⟨(rselects_any hRL l64 l80 q d x.gs (hg.kp k3 (fun _ _ _ h => h)) hgl hgz).mono fun e w4 ⟨he, hk4⟩ => ⟨_, he, ?_⟩⟩⟩
  rw [← rel_sel hrel]
  have k4 : K0 w w4 := k3.trans hk4
  have hb4 := hk4.blk hb3 (fun h => h)
  have hb14 := hk4.blk hb13 (fun h => h)
  have e2 : rsnB nb mb ds es x 2 = !selB es x.gs := by simp [rsnB, hc]
  refine bsp_intro (fun h2 => ⟨?_, k4⟩) (fun h2 => ?_)
  · rw [if_pos (by rw [e2]; exact h2)]
  rw [if_neg (by rw [e2, h2]; decide)]
  have e3 : rsnB nb mb ds es x 3 = (mb != 0 && decide (mb < x.by_)) := by simp [rsnB, hc]
  refine ⟨mb, cell_at hb4 rfl, mb, gimp_intro fun _ => cell_at hb4 rfl, x.by_, gimp_intro fun _ => cell_at hb14 rfl, bsp_intro (fun h3 => ⟨?_, k4⟩) (fun h3 => ?_)⟩
  · rw [if_pos (by rw [e3]; exact h3)]
  rw [if_neg (by rw [e3, h3]; decide)]
  have e4 : rsnB nb mb ds es x 4 = (decide ((ds.length : Int) > 0) && !x.d.toList == [] && !Lib.containsS ds x.d) := by simp [rsnB, hc]
  refine ⟨p, ds.length, c, cell_at hb4 rfl, x.d, gimp_intro fun _ => cell_at hb14 rfl, p, ds.length, c, gimp_intro fun _ => cell_at hb4 rfl, x.d, gimp_intro fun _ => cell_at hb14 rfl, bsp_intro (fun h4 => ?_) (fun h4 => ⟨?_, k4⟩)⟩
  · refine ⟨(has_any p c ds ds.length x.d w4 (hds.kp k4 (fun _ _ _ h => h)) (Nat.le_refl _) (by omega)).mono fun e w5 ⟨he, hw⟩ => ⟨_, he, ?_⟩⟩
    subst hw
    rw [List.take_length]
    refine bsp_intro (fun h5 => ⟨?_, k4⟩) (fun h5 => ⟨?_, k4⟩)
    · rw [if_pos (by rw [e4, h4]; exact h5)]
    · rw [if_neg (by rw [e4, h4, h5]; decide)]
  · rw [if_neg (by rw [e4, h4]; simp)]
theorem rdue_any (nb ps : ByteArray) (mb dl : Int) (p : Option Addr) (n c : Nat) (x : It) (q : Option Addr) (d : Nat) (w : World) (hdl : 0 ≤ dl ∧ dl ≤ 20160) (har : -9223372036854775808 ≤ x.ar ∧ x.ar ≤ 9223372036854775807) :
    Calls Tryz.prog 30 #[.agg #[.string nb, .string ps, .int .i64 mb, .int .i64 dl, .slice p n c], .agg (x.cells q d)] w fun e w' => e = .returned (.int .i64 (dueS dl x.ar)) ∧ K0 w w' := by
  refine vc_rdue nb ps mb dl p n c (x.cells q d) w _ ?_
  intro n1 w1 hn n2 w2 hn1
  have hb := (hn1.kp (fun _ => False)).blk hn.block (fun h => h)
  have hb1 := hn1.block
  have k2 : K0 w w2 := (hn.kp (fun _ => False)).trans (hn1.kp _)
  refine ⟨x.ar, cell_at hb1 rfl, dl, cell_at hb rfl, ?_⟩
  rw [wr64 (x := 9223372036854775807 - dl) (by omega) (by omega)]
  refine bsp_intro (fun hd => ⟨?_, k2⟩) (fun hd => ⟨x.ar, cell_at hb1 rfl, dl, cell_at hb rfl, ?_, k2⟩)
  · have hd : 9223372036854775807 - dl < x.ar := by simpa using hd
    unfold dueS; rw [if_pos hd]
  · have hd : ¬ 9223372036854775807 - dl < x.ar := by simpa using hd
    rw [wr64 (by omega) (by omega)]; unfold dueS; rw [if_neg hd]

end Go.Proofs.YtcpjajjocmpkjaaGreatDoor

/- The symbolic evaluator, sixth part: blocks of the function's own are kept in mind, so that a formula does not speak of them. Generic: no program, no condition. -/
namespace Go.Proofs.YtcpjajjocmpkjaaGreatDoor
open Go.RowKit

/-- A block of the function's own: its number, its type, its cells; since the world that is spoken of: 0 as it was, 1 written, 2 new. -/
structure Blk where
  n : Nat
  t : TypeId
  cs : List Value
  m : Nat
abbrev Bs := List (Nat × Blk)
/-- Blocks that are kept in mind; slots that point into them (block, offset); slots that hold a slice of a whole one; the next number; whether the world is another one by now. -/
structure Trk where
  bs : Bs
  tg : List (Nat × Nat × Nat)
  sg : List (Nat × Nat)
  nx : Nat
  d : Bool
/-- The world W is w, but for the blocks that are kept in mind. -/
structure Loc (z : Nat) (T : List Blk) (w W : World) : Prop where
  kp : Kp (fun k => ∃ x ∈ T, x.m = 1 ∧ x.n = k) w W
  blk : ∀ x ∈ T, W.heap[x.n]? = some (.cells x.cs.toArray x.t (0, 0))
  ge : ∀ x ∈ T, z ≤ x.n
  ne : (T.map (·.n)).Nodup
  nw : ∀ x ∈ T, x.m = 2 → w.heap.size ≤ x.n
  hz : z ≤ w.heap.size
/-- Blocks that are as they were. -/
structure KeptL (T : List Nat) (W w' : World) : Prop where
  size : W.heap.size ≤ w'.heap.size
  h : ∀ n ∈ T, n < W.heap.size → w'.heap[n]? = W.heap[n]?
def blksOf : Bs → List Blk
  | [] => []
  | x :: r => x.2 :: blksOf r
def allB (B : Bs) (T : Trk) : List Blk := blksOf (B ++ T.bs)
def numsOf : Bs → List Nat
  | [] => []
  | x :: r => x.2.n :: numsOf r
def keptF (l : List Nat) (W w' : World) (X : Prop) : Prop := KeptL l W w' ∧ X
def delN {α : Type} (d : Nat) : List (Nat × α) → List (Nat × α)
  | [] => []
  | x :: r => match x.1 == d with | true => delN d r | false => x :: delN d r
def memN (d : Nat) : List Nat → Bool
  | [] => false
  | x :: r => match x == d with | true => true | false => memN d r
def delAll {α : Type} (ds : List Nat) : List (Nat × α) → List (Nat × α)
  | [] => []
  | x :: r => match memN x.1 ds with | true => delAll ds r | false => x :: delAll ds r
def keepAll {α : Type} (ds : List Nat) : List (Nat × α) → List (Nat × α)
  | [] => []
  | x :: r => match memN x.1 ds with | true => x :: keepAll ds r | false => keepAll ds r
/-- The world that is spoken of is the world. -/
def calm : Bs → Bs
  | [] => []
  | x :: r => (x.1, ⟨x.2.n, x.2.t, x.2.cs, 0⟩) :: calm r
def Trk.untag (T : Trk) (dst : Option Nat) : Trk := match dst with
  | none => T
  | some d => ⟨T.bs, delN d T.tg, delN d T.sg, T.nx, T.d⟩
def Trk.untags (T : Trk) (ds : List Nat) : Trk := ⟨T.bs, delAll ds T.tg, delAll ds T.sg, T.nx, T.d⟩
/-- Some are let go; the world is the one that is spoken of. -/
def Trk.drop (T : Trk) (ids : List Nat) : Trk := ⟨calm (delAll ids T.bs), T.tg, T.sg, T.nx, false⟩
def Trk.soil (T : Trk) : Trk := ⟨T.bs, T.tg, T.sg, T.nx, true⟩
def wrM (m : Nat) : Nat := match m == 2 with | true => 2 | false => 1
def setB (id : Nat) (cs : List Value) : Bs → Bs
  | [] => []
  | x :: r => match x.1 == id with | true => (x.1, ⟨x.2.n, x.2.t, cs, wrM x.2.m⟩) :: r | false => x :: setB id cs r
def lookB (B : Bs) (T : Trk) (id : Nat) : Option Blk := match findN id T.bs with
  | some b => some b
  | none => findN id B
/-- The operands that are slots: what they point into. -/
def idsOf (T : Trk) : List Operand → List Nat
  | [] => []
  | .tmp s :: r => (match findN s T.tg, findN s T.sg with
    | some (id, _), _ => id :: idsOf T r
    | none, some id => id :: idsOf T r
    | none, none => idsOf T r)
  | _ :: r => idsOf T r
/-- What an operation lets out. -/
def escO (T : Trk) (o : Oper) : List Nat := match o.op with
  | .load _ _ => []
  | .move _ => []
  | .assign _ => []
  | .nilCheck _ => []
  | .fieldAddr _ _ _ => []
  | .indexAddr _ _ (.const _) => []
  | .slice _ _ none none none => []
  | .binOp _ _ _ _ _ => []
  | .store _ _ v => idsOf T [v]
  | op => idsOf T op.operands.toList
/-- The world as it is now. -/
def syncF (z : Nat) (B : Bs) (T : Trk) (w : World) (K : World → Prop) : Prop := match T.d with
  | false => K w
  | true => ∀ W, Loc z (allB B T) w W → K W
def dropF (z : Nat) (B : Bs) (T : Trk) (ids : List Nat) (w : World) (K : Trk → World → Prop) : Prop := match ids with
  | [] => K T w
  | i :: r => syncF z B T w fun W => K (T.drop (i :: r)) W
def repl (cs : List Value) (o n : Nat) (new : List Value) : List Value := cs.take o ++ (new ++ cs.drop (o + n))
/-- What lies in a block of the function's own. -/
def trkLoad (E : Env) (B : Bs) (T : Trk) (s : Nat) (t : TypeId) : Option (Option Value) := match findN s T.tg with
  | none => none
  | some (id, off) => match lookB B T id with
    | none => none
    | some b => match ldK E.P t with
      | some (agg, n) => (match ((b.cs.drop off).take n).length == n with
        | true => some (some (toV agg ((b.cs.drop off).take n)))
        | false => some none)
      | none => some none
def fieldOff (P : Program) (s : TypeId) (f : Nat) : Option Nat := match P.underlying s with
  | some (.struct fs) => (match fs[f]? with
    | some fd => (match szOf P fd.type with
      | some 0 => none
      | some (_ + 1) => some fd.offset
      | none => none)
    | none => none)
  | _ => none
def isNone' {α : Type} : Option α → Bool
  | none => true
  | some _ => false
/-- Addresses inside the blocks: the block's number in mind, the address. -/
def trkAddr (E : Env) (B : Bs) (T : Trk) (o : Oper) : Option (Nat × Nat × Nat) := match isNone' o.guard with
  | false => none
  | true => match o.op with
    | .fieldAddr st (.tmp s) f => (match findN s T.tg with
      | some (id, off) => (match lookB B T id, fieldOff E.P st f with
        | some b, some k => some (id, b.n, off + k)
        | _, _ => none)
      | none => none)
    | .indexAddr t (.tmp s) (.const (.int _ i)) => (match findN s T.tg with
      | some (id, off) => (match lookB B T id, E.P.underlying t with
        | some b, some (.array n e) => (match szOf E.P e, decide (0 ≤ i) && decide (i < (n : Int)) with
          | some sz, true => some (id, b.n, idx off i sz)
          | _, _ => none)
        | _, _ => none)
      | none => none)
    | .move (.tmp s) => (match findN s T.tg with | some (id, off) => (match lookB B T id with | some b => some (id, b.n, off) | none => none) | none => none)
    | .assign (.tmp s) => (match findN s T.tg with | some (id, off) => (match lookB B T id with | some b => some (id, b.n, off) | none => none) | none => none)
    | .nilCheck (.tmp s) => (match findN s T.tg with | some (id, off) => (match lookB B T id with | some b => some (id, b.n, off) | none => none) | none => none)
    | _ => none
/-- A slice of a whole block. -/
def trkSlice (E : Env) (B : Bs) (T : Trk) (o : Oper) : Option (Nat × Nat × Nat) := match isNone' o.guard with
  | false => none
  | true => match o.op with
    | .slice t (.tmp s) none none none => (match findN s T.tg with
      | some (id, 0) => (match lookB B T id, E.P.underlying t with
        | some b, some (.array n e) => (match szOf E.P e with
          | some _ => some (id, b.n, n)
          | none => none)
        | _, _ => none)
      | _ => none)
    | _ => none
def addTg (dst : Option Nat) (id off : Nat) (T : Trk) : Trk := match dst with
  | none => T
  | some d => ⟨T.bs, (d, id, off) :: delN d T.tg, delN d T.sg, T.nx, T.d⟩
def addSg (dst : Option Nat) (id : Nat) (T : Trk) : Trk := match dst with
  | none => T
  | some d => ⟨T.bs, delN d T.tg, (d, id) :: delN d T.sg, T.nx, T.d⟩
/-- A slot that is there. -/
def inB (dst : Option Nat) (l : Fr) : Bool := match dst with
  | none => true
  | some d => Nat.blt d l.length
/-- An operation that leaves the world as it is. -/
def still2 (E : Env) (z : Nat) (B : Bs) (o : Oper) (ctx : Option (Nat × Bool)) (l : Fr) (T : Trk) (w : World) (K : Fr → Trk → World → Prop) : Prop :=
  match (match o.op with | .load t (.tmp s) => trkLoad E B T s t | _ => none) with
  | some (some v) => (match deadB l 12 ctx with
    | true => K (putF l o.dst (.v undef)) (T.untag o.dst) w
    | false => (match gB l 12 ctx with
      | some _ => K (putF l o.dst (finS ctx o.dst v)) (T.untag o.dst) w
      | none => False))
  | some none => False
  | none => match trkAddr E B T o with
    | some (id, n, off) => (match inB o.dst l with
      | true => K (putF l o.dst (.v (.pointer (some ⟨n, off, none⟩)))) (addTg o.dst id off T) w
      | false => False)
    | none => match trkSlice E B T o with
      | some (id, n, m) => (match inB o.dst l with
        | true => K (putF l o.dst (.v (.slice (some ⟨n, 0, none⟩) m m))) (addSg o.dst id T) w
        | false => False)
      | none => dropF z B T (escO T o) w fun T w => stillO E o l (syncF z B T w) ctx fun l' => K l' (T.untag o.dst) w
/-- The operations of 'still2'. -/
def isStill2 (E : Env) (l : Fr) (ctx : Option (Nat × Bool)) (op : Op) : Bool := match op with
  | .store _ _ _ => false
  | .mapUpdate _ _ _ _ => false
  | .insert _ _ _ _ => false
  | .alloc _ => false
  | .box _ _ => false
  | .buildSlice _ _ _ => false
  | .makeMap _ _ => false
  | .makeSlice _ _ _ => false
  | .convert src dst _ => (match E.P.underlying dst, E.P.underlying src with
    | some (.slice _), some .string => false
    | some (.slice _), some (.slice _) => false
    | _, _ => true)
  | .call { callee := .builtin .append, .. } => false
  | .call { callee := .value (.func f), args, .. } => (match E.pur f (args.toList.map (rdV l (chain l 12 ctx))) with | some _ => true | none => false)
  | .call { callee := .value _, .. } => false
  | .call { callee := .invoke _ _, .. } => false
  | _ => true
def Trk.add (T : Trk) (b : Blk) (dst : Option Nat) : Trk := match dst with
  | none => ⟨(T.nx, b) :: T.bs, T.tg, T.sg, T.nx + 1, true⟩
  | some d => ⟨(T.nx, b) :: T.bs, (d, T.nx, 0) :: delN d T.tg, delN d T.sg, T.nx + 1, true⟩
def Trk.addS (T : Trk) (b : Blk) (dst : Option Nat) : Trk := match dst with
  | none => ⟨(T.nx, b) :: T.bs, T.tg, T.sg, T.nx + 1, true⟩
  | some d => ⟨(T.nx, b) :: T.bs, delN d T.tg, (d, T.nx) :: delN d T.sg, T.nx + 1, true⟩
/-- The cells of a new slice. -/
def rowS2 (t : TypeId) (len : Nat) (parts : Array (Nat × Value)) : Sem (TypeId × Array Value) := do
  let .slice elem ← underlying t | stuck "buildSlice: slice type expected"
  let size ← sizeOf elem
  if len * size > 2 ^ 24 then unsupported (.resourceLimit "buildSlice: more than 2^24 cells")
  let zero ← if len * size = 0 then pure #[] else do pure (← zeroValue elem).cells
  let some cells := Instr.fill (fun i => some (i * size, size)) ((Array.range (len * size)).map (zero[· % zero.size]!)) parts.toList
    | stuck "buildSlice: a part of the wrong size"
  pure (elem, cells)
/-- A new block. -/
def new2 (E : Env) (o : Oper) (l : Fr) (T : Trk) (w : World) (K : Fr → Trk → World → Prop) : Prop := match o.op with
  | .alloc t => (match Sem.ev E.P (zeroValue t) with
    | some v => ∀ n : Nat, K (putF l o.dst (.v (.pointer (some ⟨n, 0, none⟩)))) (T.add ⟨n, t, v.cells.toList, 2⟩ o.dst) w
    | none => False)
  | .box t x => (match rd l [] x with
    | some v => ∀ n : Nat, K (putF l o.dst (.v (.pointer (some ⟨n, 0, none⟩)))) (T.add ⟨n, t, v.cells.toList, 2⟩ o.dst) w
    | none => False)
  | .buildSlice t len parts => (match allRd l [] o.op.operands.toList, Sem.ev E.P (rowS2 t len (parts.map fun (i, x) => (i, rdV l [] x))) with
    | true, some (e, cells) => ∀ n : Nat, K (putF l o.dst (.v (.slice (some ⟨n, 0, none⟩) len len))) (T.addS ⟨n, e, cells.toList, 2⟩ o.dst) w
    | _, _ => False)
  | _ => False
def isNew2 : Op → Bool
  | .alloc _ => true
  | .box _ _ => true
  | .buildSlice _ _ _ => true
  | _ => false
/-- What an effect may let out: the blocks that its operands point into. -/
def escE (T : Trk) (o : Oper) : List Nat := idsOf T o.op.operands.toList
/-- An effect on the world. -/
def eff2 (E : Env) (z : Nat) (B : Bs) (ops : Array Oper) (o : Oper) (l : Fr) (T : Trk) (w : World) (K : Fr → Trk → World → Prop) : Prop :=
  syncF z B T w fun W => seqF E ops o l W fun l' w' => keptF (numsOf (B ++ ((T.drop (escE T o)).untag o.dst).bs)) W w' (K l' ((T.drop (escE T o)).untag o.dst) w')
/-- A store into a block of the function's own. -/
def trkStore (E : Env) (T : Trk) (l : Fr) (op : Op) : Option (Option Trk) := match op with
  | .store t (.tmp s) v => (match findN s T.tg with
    | some (id, off) => (match findN id T.bs with
      | some b => (match rd l [] v, szOf E.P t with
        | some y, some n => (match y.cells.size == n && (oneB y.cells.toList && Nat.ble (off + n) b.cs.length) with
          | true => some (some ⟨setB id (repl b.cs off n y.cells.toList) T.bs, T.tg, T.sg, T.nx, true⟩)
          | false => some none)
        | _, _ => some none)
      | none => none)
    | none => none)
  | _ => none
/-- An append of a block of the function's own. -/
def trkApp (E : Env) (B : Bs) (T : Trk) (l : Fr) (op : Op) : Option (TypeId × Operand × Option Addr × Nat × Nat × List Value × Nat × Nat) := match op with
  | .call { callee := .builtin .append, args, argTypes } => (match args.toList, argTypes.toList with
    | [x, .tmp s], [t, t'] => (match t == t', findN s T.sg with
      | true, some id => (match lookB B T id, rd l [] x, rd l [] (.tmp s), E.P.underlying t with
        | some b, some (.slice p n c), some (.slice _ m _), some (.slice e) => (match E.P.info? e with
          | some i => (match i.zero with
            | some zv => (match zv.cells.size == i.size && (Nat.blt 0 i.size && (b.cs.length == m * i.size && b.cs.all Value.oneCell')) with
              | true => some (e, x, p, n, c, b.cs, m, id)
              | false => none)
            | none => none)
          | none => none)
        | _, _, _, _ => none)
      | _, _ => none)
    | _, _ => none)
  | _ => none
def szB (P : Program) (e : TypeId) : Nat × Nat := match P.info? e with | some i => (i.size, i.bytes) | none => (0, 0)
def app2F (E : Env) (z : Nat) (B : Bs) (o : Oper) (l : Fr) (T : Trk) (w : World) (e : TypeId) (p : Option Addr) (n c : Nat) (news : List Value) (m id : Nat) (K : Fr → Trk → World → Prop) : Prop :=
  syncF z B T w fun W => ∃ (base : Nat) (xs : List Value), World.ownsRow W base e (szB E.P e).1 (.slice p n c) n xs ∧ n + m ≤ maxLen ∧ (n + m) * (szB E.P e).2 ≤ 140737488355328 ∧ base ≤ W.heap.size ∧
    ∀ (p' : Option Addr) (c' : Nat) (w' : World), World.ownsRow w' base e (szB E.P e).1 (.slice p' (n + m) c') (n + m) (xs ++ news) → World.grownBy W w' (Value.ownBlock (.slice p n c)) →
      keptF (numsOf (B ++ ((T.drop [id]).untag o.dst).bs)) W w' (K (putF l o.dst (.v (.slice p' (n + m) c'))) ((T.drop [id]).untag o.dst) w')
/-- An operation in its place. -/
def seqF2 (E : Env) (z : Nat) (B : Bs) (ops : Array Oper) (o : Oper) (l : Fr) (T : Trk) (w : World) (K : Fr → Trk → World → Prop) : Prop :=
  match ctxOf ops o with
  | none => False
  | some ctx => match isNew2 o.op with
    | true => splitG l (chain l 12 ctx).reverse (fun l' => match inB o.dst l' with
        | true => dropF z B T (escE T o) w fun T w => new2 E o l' T w K
        | false => False) (fun l' => K (putF l' o.dst (.v undef)) (T.untag o.dst) w)
    | false => match trkStore E T l o.op with
      | some _ => splitG l (chain l 12 ctx).reverse (fun l' => match trkStore E T l' o.op with
          | some (some T') => dropF z B T' (escO T' o) w fun T w => K (putF l' o.dst (.v undef)) (T.untag o.dst) w
          | _ => False) (fun l' => K (putF l' o.dst (.v undef)) (T.untag o.dst) w)
      | none => match isNone' ctx, trkApp E B T l o.op with
        | true, some (e, _, p, n, c, news, m, id) => app2F E z B o l T w e p n c news m id K
        | _, _ => match isStill2 E l ctx o.op with
          | true => still2 E z B o ctx l T w K
          | false => eff2 E z B ops o l T w K
def seqOps2 (E : Env) (z : Nat) (B : Bs) (ops : Array Oper) (K : Fr → Trk → World → Prop) : List Oper → Fr → Trk → World → Prop
  | [], l, T, w => K l T w
  | o :: r, l, T, w => seqF2 E z B ops o l T w (seqOps2 E z B ops K r)
def stillOps2 (E : Env) (z : Nat) (B : Bs) (ops : Array Oper) (K : Fr → Trk → World → Prop) : List Oper → Fr → Trk → World → Prop
  | [], l, T, w => K l T w
  | o :: r, l, T, w => match ctxOf ops o with
    | none => False
    | some ctx => still2 E z B o ctx l T w (stillOps2 E z B ops K r)
/-! ### Which blocks a code touches (a hint only) -/
def uniN : List Nat → List Nat → List Nat
  | [], l => l
  | x :: r, l => match memN x l with | true => uniN r l | false => x :: uniN r l
def slotIds (tg : List (Nat × Nat)) : List Operand → List Nat
  | [] => []
  | .tmp s :: r => (match findN s tg with | some id => id :: slotIds tg r | none => slotIds tg r)
  | _ :: r => slotIds tg r
def addT (dst : Option Nat) (x : Operand) (tg : List (Nat × Nat)) : List (Nat × Nat) := match dst, x with
  | some d, .tmp s => (match findN s tg with | some id => (d, id) :: delN d tg | none => delN d tg)
  | some d, _ => delN d tg
  | none, _ => tg
def delT (dst : Option Nat) (tg : List (Nat × Nat)) : List (Nat × Nat) := match dst with | some d => delN d tg | none => tg
def touchO (o : Oper) (tg : List (Nat × Nat)) (acc : List Nat) : List (Nat × Nat) × List Nat := match o.op with
  | .load _ _ => (delT o.dst tg, acc)
  | .move x => (addT o.dst x tg, acc)
  | .assign x => (addT o.dst x tg, acc)
  | .nilCheck x => (addT o.dst x tg, acc)
  | .fieldAddr _ x _ => (addT o.dst x tg, acc)
  | .indexAddr _ x (.const _) => (addT o.dst x tg, acc)
  | .slice _ x none none none => (addT o.dst x tg, acc)
  | .binOp _ _ _ _ _ => (delT o.dst tg, acc)
  | op => (delT o.dst tg, uniN (slotIds tg op.operands.toList) acc)
def touchOs : List Oper → List (Nat × Nat) → List Nat → List (Nat × Nat) × List Nat
  | [], tg, acc => (tg, acc)
  | o :: r, tg, acc => match touchO o tg acc with | (tg', acc') => touchOs r tg' acc'
def touch : Code → List (Nat × Nat) → List Nat → List (Nat × Nat) × List Nat
  | .region _ ops _, tg, acc => touchOs ops.toList tg acc
  | .seq a b, tg, acc => (match touch a tg acc with | (tg', acc') => touch b tg' acc')
  | .cond _ a b, tg, acc => (match touch a tg acc with | (_, acc') => (match touch b tg acc' with | (_, acc'') => (tg, acc'')))
  | .block _ c, tg, acc => touch c tg acc
  | .loop c, tg, acc => touch c tg acc
  | _, tg, acc => (tg, acc)
def tagIds : List (Nat × Nat × Nat) → List (Nat × Nat) → List (Nat × Nat)
  | [], l => l
  | x :: r, l => (x.1, x.2.1) :: tagIds r l
def touched (c : Code) (T : Trk) : List Nat := (touch c (tagIds T.tg T.sg) []).2
def locF (z : Nat) (L : List Blk) (w : World) (X : Prop) : Prop := match L with
  | [] => X
  | b :: r => Loc z (b :: r) w w → X
def carriedS : List (Nat × Ck) → List Nat
  | [] => []
  | x :: r => x.1 :: carriedS r
def exec2 (E : Env) (z : Nat) : Code → Bs → (Exit → Fr → Trk → World → Prop) → Fr → Trk → World → Prop
  | .skip, _, Q, l, T, w => Q .normal l T w
  | .region _ ops false, B, Q, l, T, w => seqOps2 E z B ops (Q .normal) ops.toList l T w
  | .region id ops true, B, Q, l, T, w => (match E.P.follows .mixedOrders, findN id E.tails with
    | true, none => (match Region.lexB .any ops with
      | true => stillOps2 E z B ops (Q .normal) ops.toList l T.soil w
      | false => False)
    | true, some n => (match Region.lexTailB .any ops n with
      | true => stillOps2 E z B ops (seqOps2 E z B ops (Q .normal) (ops.toList.drop n)) (ops.toList.take n) l T.soil w
      | false => (match Region.noSelect ops, findN id E.boxes with
        | true, some _ => syncF z B T.soil w fun W => boxF E ops W (fun l' w1 => keptF (numsOf (B ++ ((T.drop (touched (.region id ops true) T)).untags (dsts (.region id ops true))).bs)) W w1 (Q .normal l' ((T.drop (touched (.region id ops true) T)).untags (dsts (.region id ops true))) w1)) (boxDs E.P ops.toList) (ops.size + 1) (Array.replicate ops.size false) (forget (boxDs E.P ops.toList) l)
        | true, none => syncF z B T.soil w fun W => ∃ S : World → Prop, S W ∧ heldF E ops S (fun l' w1 => keptF (numsOf (B ++ ((T.drop (touched (.region id ops true) T)).untags (dsts (.region id ops true))).bs)) W w1 (Q .normal l' ((T.drop (touched (.region id ops true) T)).untags (dsts (.region id ops true))) w1)) ops.size true (Array.replicate ops.size false) l W
        | false, _ => False))
    | false, _ => False)
  | .seq a b, B, Q, l, T, w => (match (firstR b).bind fun i => findN i E.joins with
    | none => exec2 E z a B (fun e l' T' w' => match e with | .normal => exec2 E z b B Q l' T' w' | e => Q e l' T' w') l T w
    | some carried => syncF z B T w fun W => ∃ J : List Value → World → Prop,
      exec2 E z a (B ++ calm (delAll (touched a T) T.bs)) (fun e l' T' w' => match e with
        | .normal => syncF z (B ++ calm (delAll (touched a T) T.bs)) T' w' fun W => (match readAll l' carried with | some vs => J vs W | none => False)
        | e => Q e l' ⟨calm (delAll (touched a T) T.bs) ++ T'.bs, T'.tg, T'.sg, T'.nx, T'.d⟩ w') l ⟨calm (keepAll (touched a T) T.bs), T.tg, T.sg, T.nx, false⟩ W ∧
      allT (carried.map (·.2)) fun vs => ∀ w', J vs w' → locF z (blksOf (B ++ calm (delAll (touched a T) T.bs))) w' (exec2 E z b B Q (setAll carried vs (forget (dsts a) l)) ((⟨calm (delAll (touched a T) T.bs), T.tg, T.sg, T.nx, false⟩ : Trk).untags (dsts a ++ carriedS carried)) w'))
  | .cond c a b, B, Q, l, T, w => (match rd l [] c with
    | some (.bool t) => bsp t (exec2 E z a B Q l T w) (exec2 E z b B Q l T w)
    | _ => False)
  | .block id c, B, Q, l, T, w => exec2 E z c B (fun e l' T' w' => match e with | .exit i => (match i == id with | true => Q .normal l' T' w' | false => Q (.exit i) l' T' w') | e => Q e l' T' w') l T w
  | .loop c, B, Q, l, T, w => (match (firstR c).bind fun i => findN i E.loops with
    | none => False
    | some carried => syncF z B T w fun W => ∃ (I : List Value → World → Prop) (m : List Value → World → Nat),
      (match readAll l carried with | some vs => I vs W | none => False) ∧
      allT (carried.map (·.2)) fun vs => ∀ w', I vs w' → locF z (blksOf (B ++ calm (delAll (touched c T) T.bs))) w' (exec2 E z c (B ++ calm (delAll (touched c T) T.bs)) (fun e l' T' w'' => match e with
        | .normal => syncF z (B ++ calm (delAll (touched c T) T.bs)) T' w'' fun W' => (match readAll l' carried with | some vs' => I vs' W' ∧ m vs' W' < m vs w' | none => False)
        | e => Q e l' ⟨calm (delAll (touched c T) T.bs) ++ T'.bs, T'.tg, T'.sg, T'.nx, T'.d⟩ w'') (setAll carried vs (forget (dsts c) l)) ((⟨[], T.tg, T.sg, T.nx, false⟩ : Trk).untags (dsts c ++ carriedS carried)) w'))
  | .exit id, _, Q, l, T, w => Q (.exit id) l T w
  | .ret, _, Q, l, T, w => Q .ret l T w
  | _, _, _, _, _, _ => False
def resF2 (E : Env) (z : Nat) (T : Trk) (l : Fr) (w : World) : List ResultVar → (List Value → Prop) → Prop
  | [], F => F []
  | .tmp t :: r, F => (match rd l [] (.tmp t) with | some v => resF2 E z T l w r fun vs => F (v :: vs) | none => False)
  | .cell a t :: r, F => (match trkLoad E [] T a t with
    | some (some v) => resF2 E z T l w r fun vs => F (v :: vs)
    | some none => False
    | none => (match rd l [] (.tmp a) with
      | some (.pointer p) => loadF E true t p (syncF z [] T w) fun v => resF2 E z T l w r fun vs => F (v :: vs)
      | _ => False))
def retQ2 (E : Env) (z : Nat) (rs : List ResultVar) (R : Ending → World → Prop) : Exit → Fr → Trk → World → Prop
  | .normal, l, T, w => resF2 E z T l w rs fun vs => syncF z [] T w fun W => R (.returned (retV vs)) W
  | .ret, l, T, w => resF2 E z T l w rs fun vs => syncF z [] T w fun W => R (.returned (retV vs)) W
  | _, _, _, _ => False
def execR2 (E : Env) (rs : List ResultVar) (R : Ending → World → Prop) (c : Code) (l : Fr) (w : World) : Prop :=
  match findN 999999 E.joins with
  | none => exec2 E w.heap.size c [] (retQ2 E w.heap.size rs R) l ⟨[], [], [], 0, false⟩ w
  | some carried => ∃ J : List Value → World → Prop,
    exec2 E w.heap.size c [] (fun e l' T' w' => match e with
      | .normal => syncF w.heap.size [] T' w' fun W => (match readAll l' carried with | some vs => J vs W | none => False)
      | .ret => syncF w.heap.size [] T' w' fun W => (match readAll l' carried with | some vs => J vs W | none => False)
      | _ => False) l ⟨[], [], [], 0, false⟩ w ∧
    allT (carried.map (·.2)) fun vs => ∀ w', J vs w' → resF E (setAll carried vs (l.map fun _ => .u)) w' rs fun vs => R (.returned (retV vs)) w'

end Go.Proofs.YtcpjajjocmpkjaaGreatDoor
