/- The contracts of the law's own conversions To and item. Slices of strings lie in the memory. -/
import Derived.Test.YtcpjajjocmpkjaaDoorKnown
import Derived.Test.YtcpjajjocmpkjaaDoorVcLaw
namespace Go.Proofs.YtcpjajjocmpkjaaDoor
open Go.RowKit

/-- Strings that are copied by append to an empty slice of a new block of no cells. -/
theorem app0 {w w1 : World} {n0 sz : Nat} {T : TypeId} {q : Option Addr} {zs : List ByteArray} (hn : NewB w (.cells #[] T) n0 w1) (hz : StrP w1 q zs) (h1 : zs.length ≤ 1073741824) (h2 : zs.length * sz ≤ 140737488355328) {k : Nat} (hk : k = zs.length) {X : Option Addr → Nat → World → Prop}
    (h : ∀ (p' : Option Addr) (c' : Nat) (w' : World), w'.ownsRow n0 T 1 (.slice p' (0 + k) c') (0 + k) (zs.map Value.string) → K0 w w' → X p' c' w') :
    ∃ (base : Nat) (xs news : List Value), w1.ownsRow base T 1 (.slice (some (Addr.mk n0 0 none)) 0 0) 0 xs ∧ news.length = k * 1 ∧ SrcP w1 q news ∧ 0 + k ≤ 9223372036854775807 ∧ (0 + k) * sz ≤ 140737488355328 ∧ base ≤ w1.heap.size ∧
      ∀ (p' : Option Addr) (c' : Nat) (w' : World), w'.ownsRow base T 1 (.slice p' (0 + k) c') (0 + k) (xs ++ news) → w1.grownBy w' (Value.slice (some (Addr.mk n0 0 none)) 0 0).ownBlock → X p' c' w' := by
  subst hk
  refine ⟨n0, [], zs.map Value.string, ⟨rfl, .inr ⟨n0, 0, #[], rfl, Nat.le_refl _, hn.block, Nat.le_refl _, by decide, rfl, rfl⟩⟩, by simp, ⟨fun j u hj => ?_, fun u hu => ?_⟩, by omega, by rw [Nat.zero_add]; exact h2, by have := hn.size; omega, fun p' c' w' ho hg => h p' c' w' ho ?_⟩
  · rw [List.getElem?_map] at hj
    cases hz' : zs[j]? with
    | none => rw [hz'] at hj; simp at hj
    | some z =>
      rw [hz'] at hj
      simp at hj
      subst hj
      exact hz j z hz'
  · rw [List.mem_map] at hu
    obtain ⟨z, _, rfl⟩ := hu
    rfl
  · refine (hn.kp _).grown hg (fun k hk => .inl ?_)
    simp only [Value.ownBlock, Option.some.injEq] at hk
    have := hn.ge
    omega
theorem own_base {w : World} {base base' : Nat} {e : TypeId} {size : Nat} {v : Value} {n : Nat} {xs : List Value} (h : w.ownsRow base e size v n xs) (hb : base' ≤ base) : w.ownsRow base' e size v n xs :=
  ⟨h.1, h.2.imp id fun ⟨g, cap, cur, a1, a2, a3⟩ => ⟨g, cap, cur, a1, Nat.le_trans hb a2, a3⟩⟩

set_option maxHeartbeats 1000000 in
theorem to_any (nb ps : ByteArray) (mb dl : Int) (p : Option Addr) (c : Nat) (ds : List ByteArray) (w : World) (hds : StrP w p ds) :
    Calls Tryd.prog 10 #[.agg #[.string nb, .string ps, .int .i64 mb, .int .i64 dl, .slice p ds.length c]] w fun e w' => ∃ (p1 p2 : Option Addr) (c1 c2 : Nat),
      e = .returned (.tuple #[.agg #[.string (nb.extract 0 (min nb.size 40)), .string (ps.extract 0 (min ps.size 300)), .int .i64 mb, .int .i64 dl, .slice p1 (ds.take 10).length c1], .agg #[.string (nb.extract 0 (min nb.size 40)), .string (ps.extract 0 (min ps.size 300)), .int .i64 mb, .int .i64 dl, .slice p2 (ds.take 10).length c2]]) ∧
      w'.ownsRow w.heap.size 9 1 (.slice p1 (ds.take 10).length c1) (ds.take 10).length ((ds.take 10).map Value.string) ∧ w'.ownsRow w.heap.size 9 1 (.slice p2 (ds.take 10).length c2) (ds.take 10).length ((ds.take 10).map Value.string) ∧
      (∀ k, (Value.slice p1 (ds.take 10).length c1).ownBlock = some k → (Value.slice p2 (ds.take 10).length c2).ownBlock ≠ some k) ∧ K0 w w' := by
  refine vc_lto nb ps mb dl p ds.length c w _ ?_
  refine ⟨fun vs w' => ∃ (n n2 : Nat) (p1 p2 : Option Addr) (c1 c2 : Nat), vs = [.pointer (some ⟨n, 0, none⟩), .pointer (some ⟨n2, 0, none⟩)] ∧
      w'.heap[n]? = some (.cells #[.string (nb.extract 0 (min nb.size 40)), .string (ps.extract 0 (min ps.size 300)), .int .i64 mb, .int .i64 dl, .slice p1 (ds.take 10).length c1] 28 (0, 0)) ∧
      w'.heap[n2]? = some (.cells #[.string (nb.extract 0 (min nb.size 40)), .string (ps.extract 0 (min ps.size 300)), .int .i64 mb, .int .i64 dl, .slice p2 (ds.take 10).length c2] 24 (0, 0)) ∧
      w'.ownsRow w.heap.size 9 1 (.slice p1 (ds.take 10).length c1) (ds.take 10).length ((ds.take 10).map Value.string) ∧ w'.ownsRow w.heap.size 9 1 (.slice p2 (ds.take 10).length c2) (ds.take 10).length ((ds.take 10).map Value.string) ∧
      (∀ k, (Value.slice p1 (ds.take 10).length c1).ownBlock = some k → (Value.slice p2 (ds.take 10).length c2).ownBlock ≠ some k) ∧ K0 w w', ?_, ?_⟩
  rotate_left
  · rintro x x1 w' ⟨n, n2, p1, p2, c1, c2, hv, hb, hb2, ho, ho2, hne, hk⟩
    simp only [List.cons.injEq, Value.pointer.injEq, and_true] at hv
    obtain ⟨rfl, rfl⟩ := hv
    exact ⟨_, _, _, _, _, _, _, AtL_block hb rfl, _, _, _, _, _, _, _, AtL_block hb2 rfl, p1, p2, c1, c2, rfl, ho, ho2, hne, hk⟩
  intro n1 w1 hn1 n w2 hn n2 w3 hn2
  have l1 : w.heap.size ≤ n1 := hn1.ge
  have l2 : n1 < n := by have := hn1.size; have := hn.ge; omega
  have l3 : n < n2 := by have := hn.size; have := hn2.ge; omega
  have b1 : w3.drew.heap[n1]? = some (.cells #[.string nb, .string ps, .int .i64 mb, .int .i64 dl, .slice p ds.length c] 24 (0, 0)) := (hn2.kp (fun _ => False)).blk ((hn.kp (fun _ => False)).blk hn1.block (fun h => h)) (fun h => h)
  have b2 := (hn2.kp (fun _ => False)).blk hn.block (fun h => h)
  have b3 := hn2.block
  have k3 : K0 w w3.drew := (((hn1.kp (fun _ => False)).trans (hn.kp _)).trans (hn2.kp _)).drew
  have e40 : (if (40 : Int) < (nb.size : Int) then (40 : Int) else (nb.size : Int)).toNat = min nb.size 40 := by split <;> omega
  have e300 : (if (300 : Int) < (ps.size : Int) then (300 : Int) else (ps.size : Int)).toNat = min ps.size 300 := by split <;> omega
  refine ⟨fun w' => w'.heap[n1]? = some (.cells #[.string nb, .string ps, .int .i64 mb, .int .i64 dl, .slice p ds.length c] 24 (0, 0)), b1, nb, fun w' h => cell_at h rfl, nb, fun w' h => cell_at h rfl, by split <;> omega, ps, fun w' h => cell_at h rfl, ps, fun w' h => cell_at h rfl, by split <;> omega, mb, fun w' h => cell_at h rfl, dl, fun w' h => cell_at h rfl, fun n3 w4 hn4 => ?_⟩
  have b14 := (hn4.kp (fun _ => False)).blk b1 (fun h => h)
  refine ⟨b14, WrL_block hn4.block (by simp), fun w5 hp5 => ?_⟩
  rw [e40, e300] at hp5
  have l4 : n2 < n3 := by have := hn2.size; have : w3.drew.heap.size = w3.heap.size := rfl; have := hn4.ge; omega
  have b45 : w5.heap[n3]? = some (.cells #[.string (nb.extract 0 (min nb.size 40)), .string (ps.extract 0 (min ps.size 300)), .int .i64 mb, .int .i64 dl, .slice none 0 0] 24 (0, 0)) := hp5.full hn4.block rfl
  have b15 := hp5.kp.blk b14 (fun e => by omega)
  have b25 := hp5.kp.blk ((hn4.kp (fun _ => False)).blk (blk_drew b2) (fun h => h)) (fun e => by omega)
  have b35 := hp5.kp.blk ((hn4.kp (fun _ => False)).blk (blk_drew b3) (fun h => h)) (fun e => by omega)
  have k5 : K0 w w5 := (k3.trans (hn4.kp _)).fresh hp5.kp (fun i hi e => by omega)
  have s5 : w5.heap.size = n3 + 1 := by have := hp5.size; have := hn4.size; omega
  clear hn1 hn hn2 hn4 hp5 b14 b1 b2 b3
  refine count1 (min ds.length 10) (by omega) (fun k w' => ∃ p' c', w'.heap[n3]? = some (.cells #[.string (nb.extract 0 (min nb.size 40)), .string (ps.extract 0 (min ps.size 300)), .int .i64 mb, .int .i64 dl, .slice p' k c'] 24 (0, 0)) ∧ w'.ownsRow w5.heap.size 9 1 (.slice p' k c') k ((ds.take k).map Value.string) ∧ Kp (· = n3) w5 w') ⟨none, 0, b45, World.ownsRow_nil _ _ _ _, .refl _ _⟩ ?_
  rintro I m k w6 hk ⟨p', c', b46, ho, hk6⟩ next
  have b16 := hk6.blk b15 (fun e => by omega)
  have k6 : K0 w w6 := k5.fresh hk6 (fun i hi e => by omega)
  refine ⟨p, ds.length, c, cell_at b16 rfl, bsp_intro (fun hlt => ?_) (fun hge => ?_)⟩
  · have hlt' : k < min ds.length 10 := by simp at hlt; omega
    obtain ⟨z, hz⟩ : ∃ z, ds[k]? = some z := ⟨_, List.getElem?_eq_getElem (by omega)⟩
    have htk : ds.take (k + 1) = ds.take k ++ [z] := by rw [List.take_add_one, hz]; rfl
    obtain ⟨bz, oz, rfl, hcz⟩ := hds k z hz
    have e0 : (k : Int).toNat = k := by omega
    refine ⟨fun w' => K0 w6.drew w', .refl _ _, p', k, c', fun w' h => cell_at (h.blk (blk_drew b46) (fun h => h)) rfl, some ⟨bz, oz, none⟩, ds.length, c, fun w' h => cell_at (h.blk (blk_drew b16) (fun h => h)) rfl, ?_⟩
    show (0 ≤ (k : Int) ∧ (k : Int) < (ds.length : Int)) ∧ _
    rw [e0]
    refine ⟨⟨by omega, by omega⟩, z, fun w' h => (k6.drew.trans h).cell' hcz (fun h => h), fun n6 w7 hn7 => ⟨hn7.kp _, ?_⟩⟩
    have ho6 : w6.drew.ownsRow w5.heap.size 9 1 (.slice p' k c') k ((ds.take k).map Value.string) := ho
    refine app1 ho6 hk6.size hn7 rfl (fun u hu => by simp at hu; subst hu; rfl) (by omega) (by omega) (fun p2 c2 w8 ho8 hk8 _ => ?_)
    have b48 := hk8.blk (blk_drew b46) (fun e => by have := own_ge ho6 e; omega)
    refine ⟨cell_wr b48 (by simp), fun w9 hp9 => next hlt' w9 ⟨p2, c2, hp9.block b48, ?_, ?_⟩⟩
    · rw [htk, List.map_append]
      exact owns_kp ho8 hp9.kp (fun k hk e => by have := own_ge ho8 hk; omega)
    · exact ((hk6.drew.fresh hk8 (fun i hi e => by have := own_ge ho6 e; omega)).trans hp9.kp)
  · have hkk : k = min ds.length 10 := by simp at hge; omega
    have htk : ds.take k = ds.take 10 := by
      rw [hkk]
      rcases Nat.le_total ds.length 10 with h | h
      · rw [Nat.min_eq_left h, List.take_length, List.take_of_length_le h]
      · rw [Nat.min_eq_right h]
    have hkl : k = (ds.take 10).length := by rw [List.length_take]; omega
    rw [htk] at ho
    subst hkl
    clear hkk htk
    have b26 := hk6.blk b25 (fun e => by omega)
    have b36 := hk6.blk b35 (fun e => by omega)
    refine ⟨fun w' => w'.heap[n3]? = some (.cells #[.string (nb.extract 0 (min nb.size 40)), .string (ps.extract 0 (min ps.size 300)), .int .i64 mb, .int .i64 dl, .slice p' (ds.take 10).length c'] 24 (0, 0)), blk_drew b46, _, fun w' h => cell_at h rfl, _, fun w' h => cell_at h rfl, mb, fun w' h => cell_at h rfl, dl, fun w' h => cell_at h rfl, p', (ds.take 10).length, c', fun w' h => cell_at h rfl, _, _, mb, dl, p', (ds.take 10).length, c', fun w' h => AtL_block h rfl, fun n7 w7 hn7 => ?_⟩
    have k7 := hn7.kp (fun _ => False)
    have b47 := k7.blk (blk_drew b46) (fun h => h)
    have hlt6 := block_lt b46
    have hz6 : w6.drew.heap.size = w6.heap.size := rfl
    have g7 := hn7.ge
    obtain ⟨_, _, hstr, _, _⟩ := own_strP ho
    have hlen : (ds.take 10).length ≤ 10 := by rw [List.length_take]; omega
    refine ⟨b47, app0 hn7 ((show StrP w6.drew p' (ds.take 10) from hstr).kp k7 (fun _ _ _ h => h)) (by omega) (by omega) rfl (fun q c7 w8 ho8 hk8 => ?_)⟩
    simp only [Nat.zero_add] at ho8 ⊢
    have b48 := hk8.blk (blk_drew b46) (fun h => h)
    have b28 := hk8.blk (blk_drew b26) (fun h => h)
    have b38 := hk8.blk (blk_drew b36) (fun h => h)
    refine ⟨b48, WrL_block b28 (by simp), fun w9 hp9 => ?_⟩
    have b49 := hp9.kp.blk b48 (fun e => by omega)
    have b29 := hp9.full b28 rfl
    have b39 := hp9.kp.blk b38 (fun e => by omega)
    refine ⟨b49, WrL_block b39 (by simp), fun wa hpa => ⟨n, n2, q, p', c7, c', rfl, hpa.kp.blk b29 (fun e => by omega), hpa.full b39 rfl, ?_, ?_, ?_, ?_⟩⟩
    · refine own_base (owns_kp (owns_kp ho8 hp9.kp (fun k hk e => ?_)) hpa.kp (fun k hk e => ?_)) (by have := k6.size; omega)
      · have := own_ge ho8 hk; omega
      · have := own_ge ho8 hk; omega
    · refine own_base (owns_kp (owns_kp (owns_kp (show w6.drew.ownsRow _ _ _ _ _ _ from ho) hk8 (fun _ _ h => h)) hp9.kp (fun k hk e => ?_)) hpa.kp (fun k hk e => ?_)) (by have := k5.size; omega)
      · have := own_ge ho hk; omega
      · have := own_ge ho hk; omega
    · intro k hk1 hk2
      have := own_ge ho8 hk1
      have := own_lt ho hk2
      omega
    · exact ((k6.drew.trans hk8).fresh hp9.kp (fun i hi e => by omega)).fresh hpa.kp (fun i hi e => by omega)

def It.cut (x : It) : It := { x with gs := x.gs.take 20 }
set_option maxHeartbeats 1000000 in
theorem item_any (x : It) (p : Option Addr) (c : Nat) (w : World) (hg : StrP w p x.gs) (hc : x.gs.length ≤ c) :
    Calls Tryd.prog 14 #[.agg (x.cells p c)] w fun e w' => ∃ (p1 p2 : Option Addr) (c1 c2 : Nat),
      e = .returned (.tuple #[.agg (x.cut.cells p1 c1), .agg (x.cut.cells p2 c2)]) ∧
      w'.ownsRow w.heap.size 9 1 (.slice p1 x.cut.gs.length c1) x.cut.gs.length (x.cut.gs.map Value.string) ∧ w'.ownsRow w.heap.size 9 1 (.slice p2 x.cut.gs.length c2) x.cut.gs.length (x.cut.gs.map Value.string) ∧ K0 w w' := by
  refine vc_litem (x.cells p c) w _ ?_
  refine ⟨fun vs w' => ∃ (n n2 : Nat) (p1 p2 : Option Addr) (c1 c2 : Nat), vs = [.pointer (some ⟨n, 0, none⟩), .pointer (some ⟨n2, 0, none⟩)] ∧
      w'.heap[n]? = some (.cells (x.cut.cells p1 c1) 39 (0, 0)) ∧ w'.heap[n2]? = some (.cells (x.cut.cells p2 c2) 27 (0, 0)) ∧
      w'.ownsRow w.heap.size 9 1 (.slice p1 x.cut.gs.length c1) x.cut.gs.length (x.cut.gs.map Value.string) ∧ w'.ownsRow w.heap.size 9 1 (.slice p2 x.cut.gs.length c2) x.cut.gs.length (x.cut.gs.map Value.string) ∧ K0 w w', ?_, ?_⟩
  rotate_left
  · rintro y y1 w' ⟨n, n2, p1, p2, c1, c2, hv, hb, hb2, ho, ho2, hk⟩
    simp only [List.cons.injEq, Value.pointer.injEq, and_true] at hv
    obtain ⟨rfl, rfl⟩ := hv
    exact ⟨x.id, p1, x.cut.gs.length, c1, x.d, x.by_, x.ct, x.fr, x.ar, AtL_block hb rfl, x.id, p2, x.cut.gs.length, c2, x.d, x.by_, x.ct, x.fr, x.ar, AtL_block hb2 rfl, p1, p2, c1, c2, rfl, ho, ho2, hk⟩
  intro n w1 hn n1 w2 hn1 n2 w3 hn2 n3 w4 hn3
  have l0 : w.heap.size ≤ n := hn.ge
  have l1 : n < n1 := by have := hn.size; have := hn1.ge; omega
  have l2 : n1 < n2 := by have := hn1.size; have := hn2.ge; omega
  have l3 : n2 < n3 := by have := hn2.size; have := hn3.ge; omega
  have k3 : K0 w w3 := ((hn.kp (fun _ => False)).trans (hn1.kp _)).trans (hn2.kp _)
  have q1 := (hn1.kp (fun _ => False)).trans (hn2.kp (fun _ => False))
  have q2 := hn2.kp (fun _ => False)
  have q3 := hn3.kp (fun _ => False)
  have b0 := q1.blk hn.block (fun h => h)
  have b1 := q2.blk hn1.block (fun h => h)
  have b2 := hn2.block
  have k4 : K0 w w4 := k3.trans q3
  have b04 := q3.blk b0 (fun h => h)
  have e20 : (if (20 : Int) < (x.gs.length : Int) then (20 : Int) else (x.gs.length : Int)).toNat = (x.gs.take 20).length := by rw [List.length_take]; split <;> omega
  have hl20 : (x.gs.take 20).length ≤ 20 := by rw [List.length_take]; omega
  refine ⟨p, x.gs.length, c, cell_at b04 rfl, p, x.gs.length, c, cell_at b04 rfl, by split <;> omega, ?_⟩
  rw [e20]
  have hg4 : StrP w4 p (x.gs.take 20) := fun j z hj => by
    rw [List.getElem?_take] at hj
    split at hj
    · exact (hg.kp k4 (fun _ _ _ h => h)) j z hj
    · cases hj
  refine app0 hn3 hg4 (by omega) (by omega) rfl (fun p5 c5 w5 ho5 hk5 => ?_)
  rw [Nat.zero_add] at ho5
  have b05 := hk5.blk b0 (fun h => h)
  refine ⟨cell_wr b05 (by rw [It.size]; decide), fun w6 hp6 => ?_⟩
  rw [Nat.zero_add (List.take 20 x.gs).length] at hp6
  have b06 : w6.heap[n]? = some (.cells (x.cut.cells p5 c5) 27 (0, 0)) := hp6.block b05
  have b16 := hp6.kp.blk (hk5.blk b1 (fun h => h)) (fun e => by omega)
  have b26 := hp6.kp.blk (hk5.blk b2 (fun h => h)) (fun e => by omega)
  have ho6 := owns_kp ho5 hp6.kp (fun k hk e => by have := own_ge ho5 hk; omega)
  have k6 : K0 w w6 := (k3.trans hk5).fresh hp6.kp (fun i hi e => by omega)
  obtain ⟨_, _, hs6, _, _⟩ := own_strP ho6
  have g6 : n2 < w6.heap.size := block_lt b26
  refine ⟨fun w' => w'.heap[n]? = some (.cells (x.cut.cells p5 c5) 27 (0, 0)), blk_drew b06, x.id, fun w' h => AtL_block h rfl, p5, (x.gs.take 20).length, c5, fun w' h => cell_at h rfl, x.d, fun w' h => cell_at h rfl, x.by_, fun w' h => cell_at h rfl, x.ct, fun w' h => cell_at h rfl, x.fr, fun w' h => cell_at h rfl, x.ar, fun w' h => cell_at h rfl,
    x.id, p5, (x.gs.take 20).length, c5, x.d, x.by_, x.ct, x.fr, x.ar, fun w' h => AtL_block h rfl, fun n7 w7 hn7 => ?_⟩
  have k7 := hn7.kp (fun _ => False)
  have g7 : w6.heap.size ≤ n7 := hn7.ge
  refine ⟨k7.blk (blk_drew b06) (fun h => h), app0 hn7 ((show StrP w6.drew p5 (x.gs.take 20) from hs6).kp k7 (fun _ _ _ h => h)) (by omega) (by omega) rfl (fun p8 c8 w8 ho8 hk8 => ?_)⟩
  rw [Nat.zero_add] at ho8
  have b08 := hk8.blk (blk_drew b06) (fun h => h)
  have b18 := hk8.blk (blk_drew b16) (fun h => h)
  have b28 := hk8.blk (blk_drew b26) (fun h => h)
  refine ⟨b08, WrL_block b18 (by simp), fun w9 hp9 => ?_⟩
  rw [Nat.zero_add (List.take 20 x.gs).length] at hp9
  have b09 := hp9.kp.blk b08 (fun e => by omega)
  have b29 := hp9.kp.blk b28 (fun e => by omega)
  have b19 : w9.heap[n1]? = some (.cells (x.cut.cells p8 c8) 39 (0, 0)) := hp9.full b18 rfl
  refine ⟨b09, WrL_block b29 (by simp), fun wa hpa => ⟨n1, n2, p8, p5, c8, c5, rfl, hpa.kp.blk b19 (fun e => by omega), hpa.full b29 rfl, ?_, ?_, ?_⟩⟩
  · refine own_base (owns_kp (owns_kp ho8 hp9.kp (fun k hk e => ?_)) hpa.kp (fun k hk e => ?_)) (by have := k6.size; omega)
    · have := own_ge ho8 hk; omega
    · have := own_ge ho8 hk; omega
  · refine own_base (owns_kp (owns_kp (owns_kp (show w6.drew.ownsRow _ _ _ _ _ _ from ho6) hk8 (fun _ _ h => h)) hp9.kp (fun k hk e => ?_)) hpa.kp (fun k hk e => ?_)) (by omega)
    · have := own_ge ho6 hk; omega
    · have := own_ge ho6 hk; omega
  · exact ((k6.drew.trans hk8).fresh hp9.kp (fun i hi e => by omega)).fresh hpa.kp (fun i hi e => by omega)

end Go.Proofs.YtcpjajjocmpkjaaDoor
