/- The contract of the law's own conversion items. -/
import Derived.Test.YtcpjajjocmpkjaaGreatDoorZ13
import Derived.Test.YtcpjajjocmpkjaaGreatDoorProg
import Derived.Test.YtcpjajjocmpkjaaGreatDoorZ02
import Derived.Test.YtcpjajjocmpkjaaGreatDoorZ04
import Derived.KernelRfl
import Derived.Test.YtcpjajjocmpkjaaGreatDoorZ10
import Derived.Test.YtcpjajjocmpkjaaGreatDoorZ06
import Derived.SizedLaws
import Derived.Test.YtcpjajjocmpkjaaGreatDoorZ09
namespace Go.Proofs.YtcpjajjocmpkjaaGreatDoor
open Go.RowKit

/-- One element is appended (its cells lie in a block). -/
theorem app2 {w : World} {base n2 n c L sz : Nat} {T T' : TypeId} {f : Nat × Nat} {p : Option Addr} {xs : List Value} {cs : Array Value} (ho : w.ownsRow base T L (.slice p n c) n xs) (hb : base ≤ w.heap.size) (hs : w.heap[n2]? = some (.cells cs T' f)) (hL : cs.size = L)
    (hv : ∀ u ∈ cs.toList, u.oneCell' = true) (h1 : n + 1 ≤ 9223372036854775807) (h2 : (n + 1) * sz ≤ 140737488355328) {X : Option Addr → Nat → World → Prop}
    (h : ∀ (p' : Option Addr) (c' : Nat) (w' : World), w'.ownsRow base T L (.slice p' (n + 1) c') (n + 1) (xs ++ cs.toList) → Kp (fun k => (Value.slice p n c).ownBlock = some k) w w' → X p' c' w') :
    ∃ (base : Nat) (xs news : List Value), w.ownsRow base T L (.slice p n c) n xs ∧ news.length = L ∧ SrcP w (some (Addr.mk n2 0 none)) news ∧ n + 1 ≤ 9223372036854775807 ∧ (n + 1) * sz ≤ 140737488355328 ∧ base ≤ w.heap.size ∧
      ∀ (p' : Option Addr) (c' : Nat) (w' : World), w'.ownsRow base T L (.slice p' (n + 1) c') (n + 1) (xs ++ news) → w.grownBy w' (Value.slice p n c).ownBlock → X p' c' w' :=
  ⟨base, xs, cs.toList, ho, by simpa using hL, src_block hs hv, h1, h2, hb, fun p' c' w' ho' hg => h p' c' w' ho' ((Kp.refl _ _).grown hg (fun k hk => .inr hk))⟩
theorem own_apart {w : World} {base base' : Nat} {e e' : TypeId} {s s' : Nat} {v v' : Value} {n n' : Nat} {xs xs' : List Value} (h : w.ownsRow base e s v n xs) (h' : w.ownsRow base' e' s' v' n' xs') (hne : e ≠ e') : ∀ k, v.ownBlock = some k → v'.ownBlock ≠ some k := fun k hk hk' => by
  obtain ⟨c, h1⟩ := own_type h hk
  obtain ⟨c', h2⟩ := own_type h' hk'
  rw [h1] at h2
  simp at h2
  exact hne h2.2
theorem itC_one (y : ItA) : ∀ u ∈ itC y, u.oneCell' = true := by
  intro u hu
  have hu : u ∈ arrI .u8 y.1.id 32 0 ++ [Value.slice y.2.1 y.1.gs.length y.2.2, Value.string y.1.d, Value.int .i64 y.1.by_, Value.bool y.1.ct, Value.string y.1.fr, Value.int .i64 y.1.ar] := hu
  rcases List.mem_append.1 hu with h | h
  · rw [arrI_idI] at h
    obtain ⟨x, _, rfl⟩ := List.mem_map.1 h
    rfl
  · simp at h
    rcases h with rfl | rfl | rfl | rfl | rfl | rfl <;> rfl
/-- Items that came in. -/
structure ArgI (w : World) (p : Option Addr) (n : Nat) (L : List ItA) : Prop where
  len : n = L.length
  at_ : ∀ (k : Nat) (y : ItA), L[k]? = some y → ∃ b o, p = some ⟨b, o, none⟩ ∧ AtL w b (o + k * 38) (itC y) ∧ StrP w y.2.1 y.1.gs ∧ y.1.gs.length ≤ y.2.2
theorem AtL.k0 {w w' : World} {b o : Nat} {cs : List Value} (h : AtL w b o cs) (hk : K0 w w') : AtL w' b o cs := by
  have key : ∀ (cs : List Value) (o : Nat), At w b o cs → At w' b o cs := by
    intro cs
    induction cs with
    | nil => intro o _; trivial
    | cons v r ih =>
      intro o h
      cases r with
      | nil => exact hk.cell' h (fun h => h)
      | cons u r => exact ⟨hk.cell' h.1 (fun h => h), ih (o + 1) h.2⟩
  exact ⟨key cs o h.h⟩
def cutA (y : ItA) : It := y.1.cut

set_option maxRecDepth 100000 in
set_option maxHeartbeats 2000000 in
theorem items_any' (p : Option Addr) (n c : Nat) (L : List ItA) (w : World) (hA : ArgI w p n L) :
    Calls Tryz.prog 8 #[.slice p n c] w fun e w' => ∃ (p1 p2 : Option Addr) (c1 c2 : Nat) (L1 L2 : List ItA), e = .returned (.tuple #[.slice p1 (min n 20) c1, .slice p2 (min n 20) c2]) ∧
      ItR 53 w.heap.size w' p1 (min n 20) c1 L1 ∧ ItR 70 w.heap.size w' p2 (min n 20) c2 L2 ∧ L1.map (·.1) = (L.take 20).map (·.1.cut) ∧ L2.map (·.1) = (L.take 20).map (·.1.cut) ∧ K0 w w' := by
  refine vc_litems p n c w _ ?_
  have hLn := hA.len
  refine ⟨fun vs w' => ∃ (k : Nat) (p2 p1 : Option Addr) (c2 c1 : Nat) (L1 L2 : List ItA), vs = [.int .i64 (k : Int), .slice p2 k c2, .slice p1 k c1] ∧ k ≤ min n 20 ∧ ItR 53 w.heap.size w' p1 k c1 L1 ∧ ItR 70 w.heap.size w' p2 k c2 L2 ∧ L1.map (·.1) = (L.take k).map (·.1.cut) ∧ L2.map (·.1) = (L.take k).map (·.1.cut) ∧ K0 w w',
    fun vs _ => (match vs with | .int _ x :: _ => min n 20 - x.toNat | _ => 0), ⟨0, none, none, 0, 0, [], [], rfl, by omega, ⟨rfl, World.ownsRow_nil _ _ _ _, fun y hy => by cases hy⟩, ⟨rfl, World.ownsRow_nil _ _ _ _, fun y hy => by cases hy⟩, rfl, rfl, .refl _ _⟩, ?_⟩
  rintro i p2 n2 c2 p1 n1 c1 w1 ⟨k, p2', p1', c2', c1', L1, L2, hv, hk, hI1, hI2, hm1, hm2, k1⟩
  simp only [List.cons.injEq, Value.int.injEq, Value.slice.injEq, true_and, and_true] at hv
  obtain ⟨rfl, ⟨rfl, e3, rfl⟩, ⟨rfl, e6, rfl⟩⟩ := hv
  have e3 := e3.symm
  subst e3
  have e6 := e6.symm
  subst e6
  refine bsp_intro (fun hlt => ?_) (fun hge => ?_)
  · have hlt : k < min n 20 := by simp at hlt; omega
    obtain ⟨y, hy⟩ : ∃ y, L[k]? = some y := ⟨_, List.getElem?_eq_getElem (by omega)⟩
    have htk : (L.take (k + 1)).map (·.1.cut) = (L.take k).map (·.1.cut) ++ [y.1.cut] := by rw [List.take_add_one, hy, List.map_append]; rfl
    obtain ⟨b, o, rfl, hat, hgs, hgc⟩ := hA.at_ k y hy
    show (0 ≤ (k : Int) ∧ (k : Int) < (n : Int)) ∧ _
    rw [Int.toNat_natCast]
    refine ⟨by omega, y.1.id, y.2.1, y.1.gs.length, y.2.2, y.1.d, y.1.by_, y.1.ct, y.1.fr, y.1.ar, hat.k0 k1, ⟨(item_any y.1 y.2.1 y.2.2 w1 (hgs.kp k1 (fun _ _ _ h => h)) hgc).mono fun e w2 he => ?_⟩⟩
    obtain ⟨q1, q2, d1, d2, he, hr1, hr2, hk2⟩ := he
    refine ⟨_, _, _, _, _, _, _, _, _, _, _, _, _, _, _, _, _, _, he, fun n4 w3 hn3 n5 w4 hn4 => ?_⟩
    have ga : w2.heap.size ≤ n4 := hn3.ge
    have gb : n4 < n5 := by have := hn3.size; have := hn4.ge; omega
    have b4a := (hn4.kp (fun _ => False)).blk hn3.block (fun h => h)
    refine ⟨WrL_block b4a (by simp), fun w5 hp5 => ?_⟩
    have b4b : w5.heap[n4]? = some (.cells (y.1.cut.cells q1 d1) 53 (0, 0)) := hp5.full b4a rfl
    have b5b := hp5.kp.blk hn4.block (fun e => by omega)
    refine ⟨WrL_block b5b (by simp), fun w6 hp6 => ?_⟩
    have b46 := hp6.kp.blk b4b (fun e => by omega)
    have b56 : w6.heap[n5]? = some (.cells (y.1.cut.cells q2 d2) 70 (0, 0)) := hp6.full b5b rfl
    have k26 : K0 w2 w6 := (((hn3.kp (fun _ => False)).trans (hn4.kp _)).fresh hp5.kp (fun i hi e => by omega)).fresh hp6.kp (fun i hi e => by omega)
    clear hn3 hn4 b4a hp5 b4b b5b hp6
    have k16 : K0 w1 w6.drew := (hk2.trans k26).drew
    have hI1' := hI1.kp k16
    have hI2' := hI2.kp k16
    have hb46 : w6.drew.heap[n4]? = some (.cells (y.1.cut.cells q1 d1) 53 (0, 0)) := blk_drew b46
    have hb56 : w6.drew.heap[n5]? = some (.cells (y.1.cut.cells q2 d2) 70 (0, 0)) := blk_drew b56
    have hr1' : w6.drew.ownsRow w.heap.size 9 1 (.slice q1 y.1.cut.gs.length d1) y.1.cut.gs.length (y.1.cut.gs.map Value.string) := own_base (owns_kp hr1 k26.drew (fun _ _ h => h)) k1.size
    have hr2' : w6.drew.ownsRow w.heap.size 9 1 (.slice q2 y.1.cut.gs.length d2) y.1.cut.gs.length (y.1.cut.gs.map Value.string) := own_base (owns_kp hr2 k26.drew (fun _ _ h => h)) k1.size
    have kw6 : K0 w w6.drew := k1.trans k16
    have l1 : ∀ i, (Value.slice p1 k c1).ownBlock = some i → w.heap.size ≤ i ∧ i < w2.heap.size := fun i hi => ⟨own_ge hI1.row hi, Nat.lt_of_lt_of_le (own_lt hI1.row hi) hk2.size⟩
    have l2 : ∀ i, (Value.slice p2 k c2).ownBlock = some i → w.heap.size ≤ i ∧ i < w2.heap.size := fun i hi => ⟨own_ge hI2.row hi, Nat.lt_of_lt_of_le (own_lt hI2.row hi) hk2.size⟩
    let y1 : ItA := (y.1.cut, q1, d1)
    let y2 : ItA := (y.1.cut, q2, d2)
    have f1 : IntKind.i64.wrap ((k : Int) + 1) = ((k + 1 : Nat) : Int) := by rw [wr64 (by omega) (by omega)]; omega
    rw [f1]
    -- what is there behind both appends
    have fin : ∀ (wF : World) (pa pb : Option Addr) (ca cb : Nat), wF.ownsRow w.heap.size 53 38 (.slice pa (k + 1) ca) (k + 1) (L1.flatMap itC ++ itC y1) → wF.ownsRow w.heap.size 70 38 (.slice pb (k + 1) cb) (k + 1) (L2.flatMap itC ++ itC y2) →
        Kp (fun i => (Value.slice p1 k c1).ownBlock = some i ∨ (Value.slice p2 k c2).ownBlock = some i) w6.drew wF →
        (∃ (k' : Nat) (p2 p1 : Option Addr) (c2 c1 : Nat) (L1 L2 : List ItA), ([Value.int .i64 ((k + 1 : Nat) : Int), .slice pb (k + 1) cb, .slice pa (k + 1) ca] : List Value) = [.int .i64 (k' : Int), .slice p2 k' c2, .slice p1 k' c1] ∧ k' ≤ min n 20 ∧ ItR 53 w.heap.size wF p1 k' c1 L1 ∧ ItR 70 w.heap.size wF p2 k' c2 L2 ∧ L1.map (·.1) = (L.take k').map (·.1.cut) ∧ L2.map (·.1) = (L.take k').map (·.1.cut) ∧ K0 w wF) := by
      intro wF pa pb ca cb ha hb hkF
      have keep : ∀ {v : Value} {m : Nat} {xs : List Value}, w6.drew.ownsRow w.heap.size 9 1 v m xs → wF.ownsRow w.heap.size 9 1 v m xs := fun hx => owns_kp hx hkF (fun i hi e => by
        rcases e with e | e
        · exact own_apart hx hI1'.row (by decide) i hi e
        · exact own_apart hx hI2'.row (by decide) i hi e)
      refine ⟨k + 1, pb, pa, cb, ca, L1 ++ [y1], L2 ++ [y2], rfl, by omega, ⟨by rw [List.length_append, ← hI1.len]; rfl, by rw [List.flatMap_append]; simpa using ha, fun z hz => ?_⟩, ⟨by rw [List.length_append, ← hI2.len]; rfl, by rw [List.flatMap_append]; simpa using hb, fun z hz => ?_⟩, ?_, ?_, ?_⟩
      · rcases List.mem_append.1 hz with h | h
        · exact keep (hI1'.gs z h)
        · simp at h; subst h; exact keep hr1'
      · rcases List.mem_append.1 hz with h | h
        · exact keep (hI2'.gs z h)
        · simp at h; subst h; exact keep hr2'
      · rw [List.map_append, hm1, htk]; rfl
      · rw [List.map_append, hm2, htk]; rfl
      · exact kw6.fresh hkF (fun i hi e => by
          rcases e with e | e
          · have := l1 i e; omega
          · have := l2 i e; omega)
    let S : World → Prop := fun wz => wz.heap[n4]? = some (.cells (y.1.cut.cells q1 d1) 53 (0, 0)) ∧ wz.heap[n5]? = some (.cells (y.1.cut.cells q2 d2) 70 (0, 0))
    have hS : ∀ {M : Nat → Prop} {wa wz : World}, S wa → Kp M wa wz → (∀ i, M i → i < w2.heap.size) → S wz := fun h hk hM => ⟨hk.blk h.1 (fun e => by have := hM _ e; omega), hk.blk h.2 (fun e => by have := hM _ e; omega)⟩
    have hsz : w.heap.size ≤ w6.drew.heap.size := kw6.size
    refine ⟨S, ⟨hb46, hb56⟩, y.1.cut.id, q1, y.1.cut.gs.length, d1, y.1.cut.d, y.1.cut.by_, y.1.cut.ct, y.1.cut.fr, y.1.cut.ar, fun wz h => AtL_block h.1 rfl, y.1.cut.id, q2, y.1.cut.gs.length, d2, y.1.cut.d, y.1.cut.by_, y.1.cut.ct, y.1.cut.fr, y.1.cut.ar, fun wz h => AtL_block h.2 rfl, ?_, ?_⟩
    · intro n7 w7 hn7
      have k7 : K0 w6.drew w7 := hn7.kp _
      have S7 : S w7 := hS ⟨hb46, hb56⟩ k7 (fun i h => h.elim)
      refine ⟨S7, ?_, ?_⟩
      · refine app2 (owns_kp hI1'.row k7 (fun _ _ h => h)) (Nat.le_trans hsz k7.size) hn7.block rfl (itC_one y1) (by omega) (by omega) (fun pa ca w8 ho8 hk8 => ⟨hS S7 hk8 (fun i e => (l1 i e).2), fun n9 w9 hn9 => ?_⟩)
        have k9 : K0 w8 w9 := hn9.kp _
        have S8 := hS S7 hk8 (fun i e => (l1 i e).2)
        refine ⟨hS S8 k9 (fun i h => h.elim), ?_⟩
        have hrow2 : w9.ownsRow w.heap.size 70 38 (.slice p2 k c2) k (L2.flatMap itC) := owns_kp (owns_kp (owns_kp hI2'.row k7 (fun _ _ h => h)) hk8 (own_apart hI2'.row hI1'.row (by decide))) k9 (fun _ _ h => h)
        refine app2 hrow2 (by have := hk8.size; have := k9.size; have := k7.size; omega) hn9.block rfl (itC_one y2) (by omega) (by omega) (fun pb cb wa hoa hka => ⟨fin wa pa pb ca cb (owns_kp (owns_kp ho8 k9 (fun _ _ h => h)) hka (own_apart (owns_kp ho8 k9 (fun _ _ h => h)) hrow2 (by decide))) hoa ?_, by simp only [Int.toNat_natCast]; omega⟩)
        exact ((k7.mono (fun _ _ h => h.elim)).trans (hk8.mono (fun _ _ h => .inl h))).trans ((k9.mono (fun _ _ h => h.elim)).trans (hka.mono (fun _ _ h => .inr h)))
      · intro n9 w8 hn8
        have k8 : K0 w7 w8 := hn8.kp _
        have S8 := hS S7 k8 (fun i h => h.elim)
        refine ⟨S8, app2 (owns_kp (owns_kp hI1'.row k7 (fun _ _ h => h)) k8 (fun _ _ h => h)) (by have := k7.size; have := k8.size; omega) (k8.blk hn7.block (fun h => h)) rfl (itC_one y1) (by omega) (by omega) (fun pa ca w9 ho9 hk9 => ⟨hS S8 hk9 (fun i e => (l1 i e).2), ?_⟩)⟩
        have hrow2 : w9.ownsRow w.heap.size 70 38 (.slice p2 k c2) k (L2.flatMap itC) := owns_kp (owns_kp (owns_kp hI2'.row k7 (fun _ _ h => h)) k8 (fun _ _ h => h)) hk9 (own_apart hI2'.row hI1'.row (by decide))
        have hb9 := hk9.blk hn8.block (fun e => by have := l1 _ e; have := hn8.ge; have := k7.size; have := k26.size; have : w6.drew.heap.size = w6.heap.size := rfl; omega)
        refine app2 hrow2 (by have := hk9.size; have := k8.size; have := k7.size; omega) hb9 rfl (itC_one y2) (by omega) (by omega) (fun pb cb wa hoa hka => ⟨fin wa pa pb ca cb (owns_kp ho9 hka (own_apart ho9 hrow2 (by decide))) hoa ?_, by simp only [Int.toNat_natCast]; omega⟩)
        exact ((k7.mono (fun _ _ h => h.elim)).trans (k8.mono (fun _ _ h => h.elim))).trans ((hk9.mono (fun _ _ h => .inl h)).trans (hka.mono (fun _ _ h => .inr h)))
    · intro n7 w7 hn7
      have k7 : K0 w6.drew w7 := hn7.kp _
      have S7 : S w7 := hS ⟨hb46, hb56⟩ k7 (fun i h => h.elim)
      refine ⟨S7, fun n9 w8 hn8 => ?_⟩
      have k8 : K0 w7 w8 := hn8.kp _
      have S8 := hS S7 k8 (fun i h => h.elim)
      refine ⟨S8, app2 (owns_kp (owns_kp hI1'.row k7 (fun _ _ h => h)) k8 (fun _ _ h => h)) (by have := k7.size; have := k8.size; omega) hn8.block rfl (itC_one y1) (by omega) (by omega) (fun pa ca w9 ho9 hk9 => ⟨hS S8 hk9 (fun i e => (l1 i e).2), ?_⟩)⟩
      have hrow2 : w9.ownsRow w.heap.size 70 38 (.slice p2 k c2) k (L2.flatMap itC) := owns_kp (owns_kp (owns_kp hI2'.row k7 (fun _ _ h => h)) k8 (fun _ _ h => h)) hk9 (own_apart hI2'.row hI1'.row (by decide))
      have hb9 := hk9.blk (k8.blk hn7.block (fun h => h)) (fun e => by have := l1 _ e; have := hn7.ge; have := k26.size; have : w6.drew.heap.size = w6.heap.size := rfl; omega)
      refine app2 hrow2 (by have := hk9.size; have := k8.size; have := k7.size; omega) hb9 rfl (itC_one y2) (by omega) (by omega) (fun pb cb wa hoa hka => ⟨fin wa pa pb ca cb (owns_kp ho9 hka (own_apart ho9 hrow2 (by decide))) hoa ?_, by simp only [Int.toNat_natCast]; omega⟩)
      exact ((k7.mono (fun _ _ h => h.elim)).trans (k8.mono (fun _ _ h => h.elim))).trans ((hk9.mono (fun _ _ h => .inl h)).trans (hka.mono (fun _ _ h => .inr h)))
  · have hkk : k = min n 20 := by simp at hge; omega
    have ht : L.take k = L.take 20 := by
      rcases Nat.le_total L.length 20 with h | h
      · rw [List.take_of_length_le (by omega), List.take_of_length_le h]
      · rw [show k = 20 by omega]
    rw [ht] at hm1 hm2
    rw [← hkk]
    exact ⟨p1, p2, c1, c2, L1, L2, rfl, hI1, hI2, hm1, hm2, k1⟩

end Go.Proofs.YtcpjajjocmpkjaaGreatDoor

/- Rows that are copied by append, in part; lemmas for formulas with own blocks. Generic: no condition. -/
namespace Go.Proofs.YtcpjajjocmpkjaaGreatDoor
open Go.RowKit

theorem nn_off {p : Option Addr} {K : Nat → Nat → Prop} (h : ∀ b o, K b o) : nn false p K := by
  match p with
  | none => exact ⟨rfl, h 0 0⟩
  | some ⟨b, o, none⟩ => exact h b o
  | some ⟨b, o, some x⟩ => exact ⟨rfl, h 0 0⟩
theorem own_le {w : World} {base : Nat} {e : TypeId} {size n c : Nat} {p : Option Addr} {xs : List Value} (h : w.ownsRow base e size (.slice p n c) n xs) : n ≤ c := by
  rcases h.2 with ⟨hv, hn⟩ | ⟨g, cap, cur, hv, _, _, hc, _⟩
  · omega
  · simp only [Value.slice.injEq, true_and] at hv
    rw [hv.2]; exact hc
/-- A block of no cells is an empty row. -/
theorem own_none {w : World} {base n0 : Nat} {e : TypeId} {size : Nat} (hb : base ≤ n0) (h : w.heap[n0]? = some (.cells #[] e (0, 0))) : w.ownsRow base e size (.slice (some ⟨n0, 0, none⟩) 0 0) 0 [] :=
  ⟨by simp, .inr ⟨n0, 0, #[], rfl, hb, h, Nat.le_refl _, by decide, by simp, by simp⟩⟩
theorem src_take {w : World} {base : Nat} {e : TypeId} {size n c : Nat} {p : Option Addr} {xs : List Value} (h : w.ownsRow base e size (.slice p n c) n xs) (h1 : ∀ u ∈ xs, u.oneCell' = true) (m : Nat) : SrcP w p (xs.take m) := by
  refine ⟨fun j u hj => ?_, fun u hu => h1 u (List.mem_of_mem_take hu)⟩
  rw [List.getElem?_take] at hj
  split at hj
  · obtain ⟨g, hp, hc⟩ := own_cellL h hj
    exact ⟨g, 0, hp, by rw [Nat.zero_add]; exact hc⟩
  · cases hj
theorem src_drop {w : World} {base : Nat} {e : TypeId} {size n c : Nat} {p : Option Addr} {xs : List Value} (h : w.ownsRow base e size (.slice p n c) n xs) (h1 : ∀ u ∈ xs, u.oneCell' = true) {i : Nat} (hi : i ≤ n) : SrcP w (slA p c i size) (xs.drop (i * size)) := by
  refine ⟨fun j u hj => ?_, fun u hu => h1 u (List.mem_of_mem_drop hu)⟩
  rw [List.getElem?_drop] at hj
  obtain ⟨g, hp, hc⟩ := own_cellL h hj
  have hlt := (List.getElem?_eq_some_iff.1 hj).1
  have hl := h.1
  have hle := own_le h
  have hne : c ≠ i := by
    intro e
    have : n = i := by omega
    subst this
    omega
  refine ⟨g, i * size, ?_, hc⟩
  unfold slA
  rw [if_neg hne, hp]
  simp [add_plain]
theorem kp_grown {w w' : World} {row : Option Nat} (hg : w.grownBy w' row) : Kp (fun k => row = some k) w w' := (Kp.refl _ _).grown hg (fun _ hk => .inr hk)
theorem take_flat {α : Type} (f : α → List Value) (L : Nat) : ∀ (l : List α) (m : Nat), (∀ y ∈ l, (f y).length = L) → (l.flatMap f).take (m * L) = (l.take m).flatMap f
  | [], m, _ => by simp
  | y :: l, 0, _ => by simp
  | y :: l, m + 1, h => by
    have hy := h y List.mem_cons_self
    rw [List.flatMap_cons, List.take_append, List.take_of_length_le (by rw [hy, Nat.succ_mul]; omega), hy, show (m + 1) * L - L = m * L by rw [Nat.succ_mul]; omega, take_flat f L l m (fun z hz => h z (List.mem_cons_of_mem _ hz))]
    rfl
theorem drop_flat {α : Type} (f : α → List Value) (L : Nat) : ∀ (l : List α) (m : Nat), (∀ y ∈ l, (f y).length = L) → (l.flatMap f).drop (m * L) = (l.drop m).flatMap f
  | [], m, _ => by simp
  | y :: l, 0, _ => by simp
  | y :: l, m + 1, h => by
    have hy := h y List.mem_cons_self
    rw [List.flatMap_cons, List.drop_append, List.drop_eq_nil_of_le (by rw [hy, Nat.succ_mul]; omega), hy, show (m + 1) * L - L = m * L by rw [Nat.succ_mul]; omega, drop_flat f L l m (fun z hz => h z (List.mem_cons_of_mem _ hz))]
    rfl
theorem len_flat {α : Type} (f : α → List Value) (L : Nat) : ∀ (l : List α), (∀ y ∈ l, (f y).length = L) → (l.flatMap f).length = l.length * L
  | [], _ => by simp
  | y :: l, h => by
    rw [List.flatMap_cons, List.length_append, h y List.mem_cons_self, len_flat f L l (fun z hz => h z (List.mem_cons_of_mem _ hz)), List.length_cons, Nat.succ_mul]; omega

/-- An element of a row. -/
theorem own_at {α : Type} (f : α → List Value) {L : Nat} {w : World} {base : Nat} {e : TypeId} {p : Option Addr} {n c : Nat} {l : List α} (h : w.ownsRow base e L (.slice p n c) n (l.flatMap f)) (hl : ∀ y ∈ l, (f y).length = L) (h0 : 0 < L) {k : Nat} {y : α} (hy : l[k]? = some y) : ∃ g, p = some ⟨g, 0, none⟩ ∧ AtL w g (0 + k * L) (f y) := by
  have hyl := hl y (List.mem_of_getElem? hy)
  have key : ∀ j v, (f y)[j]? = some v → ∃ g, p = some ⟨g, 0, none⟩ ∧ w.cell? ⟨g, k * L + j, none⟩ = some v := fun j v hv => own_cellL h (by
    have hj : j < L := by rw [← hyl]; exact (List.getElem?_eq_some_iff.1 hv).1
    rw [flat_get f L l k y j hl hy hj]; exact hv)
  obtain ⟨g, hp, _⟩ := key 0 _ (List.getElem?_eq_getElem (by omega))
  refine ⟨g, hp, ⟨At_of _ _ fun j v hv => ?_⟩⟩
  obtain ⟨g', hp', hc⟩ := key j v hv
  rw [hp] at hp'
  simp only [Option.some.injEq, Addr.mk.injEq, and_true] at hp'
  subst hp'
  rw [Nat.zero_add]; exact hc
theorem AtL.left {w : World} {b o : Nat} {l1 l2 : List Value} (h : AtL w b o (l1 ++ l2)) : AtL w b o l1 :=
  ⟨At_of _ _ fun j v hv => At_get _ _ h.h j v (by rw [List.getElem?_append_left (List.getElem?_eq_some_iff.1 hv).1]; exact hv)⟩

end Go.Proofs.YtcpjajjocmpkjaaGreatDoor

/- The formulas of functions by the symbolic evaluator, and that each gives the call's contract. Written by a program (gen.py). No condition. -/
namespace Go.Proofs.YtcpjajjocmpkjaaGreatDoor
set_option maxRecDepth 100000
set_option linter.unusedVariables false

def VC_rselect (nb : ByteArray) (ps : ByteArray) (mb : Int) (dl : Int) (p : Option Addr) (n : Nat) (c : Nat) (q : Option Addr) (k : Nat) (d : Nat) (now : Int) (w : World) (R : Ending → World → Prop) : Prop :=
 ∀ (n_1 : Nat) (W : World),
 Loc w.heap.size
 [Blk.mk n_1 24
 [Value.string nb, Value.string ps, Value.int IntKind.i64 mb, Value.int IntKind.i64 dl, Value.slice p n c] 2]
 w W →
 ∃ (I : List Value → World → Prop),
 ∃ (m : List Value → World → Nat),
 I [Value.int IntKind.i64 0, Value.slice none 0 0] W ∧
 ∀ (x : Int) (p_1 : Option Addr) (n_2 c_1 : Nat) (w' : World),
 I [Value.int IntKind.i64 x, Value.slice p_1 n_2 c_1] w' →
 Loc w.heap.size
 [Blk.mk n_1 24
 [Value.string nb, Value.string ps, Value.int IntKind.i64 mb, Value.int IntKind.i64 dl, Value.slice p n c] 0]
 w' w' →
 bsp (decide (x < (↑k : Int)))
 (∀ (W : World),
 Loc w.heap.size
 [Blk.mk n_1 24
 [Value.string nb, Value.string ps, Value.int IntKind.i64 mb, Value.int IntKind.i64 dl, Value.slice p n c]
 0]
 w' W →
 ∃ (S : World → Prop),
 S W ∧
 ∃ (x_1 : ByteArray),
 ∃ (x_2 : ByteArray),
 ∃ (x_3 : Int),
 ∃ (x_4 : Int),
 ∃ (p_2 : Option Addr),
 ∃ (n_3 : Nat),
 ∃ (c_2 : Nat),
 (∀ (w' : World),
 S w' →
 AtL w' n_1 0
 [Value.string x_1, Value.string x_2, Value.int IntKind.i64 x_3, Value.int IntKind.i64 x_4,
 Value.slice p_2 n_3 c_2]) ∧
 nn true q fun (b o : Nat) =>
 (0 ≤ x ∧ x < (↑k : Int)) ∧
 ∃ (f : Nat → Int),
 ∃ (p_3 : Option Addr),
 ∃ (n_4 : Nat),
 ∃ (c_3 : Nat),
 ∃ (x_5 : ByteArray),
 ∃ (x_6 : Int),
 ∃ (x_7 : Bool),
 ∃ (x_8 : ByteArray),
 ∃ (x_9 : Int),
 (∀ (w' : World),
 S w' →
 AtL w' b (o + x.toNat * 38)
 (arrI IntKind.u8 f 32 0 ++ [Value.slice p_3 n_4 c_3, Value.string x_5,
 Value.int IntKind.i64 x_6, Value.bool x_7, Value.string x_8,
 Value.int IntKind.i64 x_9])) ∧
 CallsS Tryz.prog 29
 #[Value.agg
 #[Value.string x_1, Value.string x_2, Value.int IntKind.i64 x_3,
 Value.int IntKind.i64 x_4, Value.slice p_2 n_3 c_2],
 Value.agg
 (arrI IntKind.u8 f 32 0 ++ [Value.slice p_3 n_4 c_3,
 Value.string x_5, Value.int IntKind.i64 x_6, Value.bool x_7, Value.string x_8,
 Value.int IntKind.i64 x_9]).toArray]
 W fun (e : Ending) (w'_1 : World) =>
 ∃ (x_10 : Int),
 e = Ending.returned (Value.int IntKind.i64 x_10) ∧
 S w'_1 ∧
 ∃ (x_11 : ByteArray),
 ∃ (x_12 : ByteArray),
 ∃ (x_13 : Int),
 ∃ (x_14 : Int),
 ∃ (p_4 : Option Addr),
 ∃ (n_5 : Nat),
 ∃ (c_4 : Nat),
 gimp (!x_10 != 0)
 (∀ (w' : World),
 S w' →
 AtL w' n_1 0
 [Value.string x_11, Value.string x_12, Value.int IntKind.i64 x_13,
 Value.int IntKind.i64 x_14, Value.slice p_4 n_5 c_4]) ∧
 nn (!x_10 != 0) q fun (b o : Nat) =>
 gimp (!x_10 != 0) (0 ≤ x ∧ x < (↑k : Int)) ∧
 ∃ (f : Nat → Int),
 ∃ (p_5 : Option Addr),
 ∃ (n_6 : Nat),
 ∃ (c_5 : Nat),
 ∃ (x_15 : ByteArray),
 ∃ (x_16 : Int),
 ∃ (x_17 : Bool),
 ∃ (x_18 : ByteArray),
 ∃ (x_19 : Int),
 gimp (!x_10 != 0)
 (∀ (w' : World),
 S w' →
 AtL w' b (o + x.toNat * 38)
 (arrI IntKind.u8 f 32 0 ++ [Value.slice p_5 n_6 c_5, Value.string x_15,
 Value.int IntKind.i64 x_16, Value.bool x_17,
 Value.string x_18, Value.int IntKind.i64 x_19])) ∧
 bsp (!x_10 != 0)
 (CallsS Tryz.prog 30
 #[Value.agg
 #[Value.string x_11, Value.string x_12,
 Value.int IntKind.i64 x_13, Value.int IntKind.i64 x_14,
 Value.slice p_4 n_5 c_4],
 Value.agg
 (arrI IntKind.u8 f 32 0 ++ [Value.slice p_5 n_6 c_5, Value.string x_15,
 Value.int IntKind.i64 x_16, Value.bool x_17,
 Value.string x_18, Value.int IntKind.i64 x_19]).toArray]
 w'_1 fun (e : Ending) (w'_2 : World) =>
 ∃ (x_20 : Int),
 e = Ending.returned (Value.int IntKind.i64 x_20) ∧
 KeptL [n_1] W w'_2 ∧
 bsp (false || decide (x_20 > now))
 (I
 [Value.int IntKind.i64 (IntKind.i64.wrap (x + 1)),
 Value.slice p_1 n_2 c_1]
 w'_2 ∧
 m
 [Value.int IntKind.i64 (IntKind.i64.wrap (x + 1)),
 Value.slice p_1 n_2 c_1]
 w'_2 <
 m [Value.int IntKind.i64 x, Value.slice p_1 n_2 c_1]
 w')
 (∃ (J : List Value → World → Prop),
 (∃ (I : List Value → World → Prop),
 ∃ (m : List Value → World → Nat),
 I [Value.int IntKind.i64 (↑n_2 : Int)] w'_2 ∧
 ∀ (x_21 : Int) (w' : World),
 I [Value.int IntKind.i64 x_21] w' →
 Loc w.heap.size
 [Blk.mk n_1 24
 [Value.string nb, Value.string ps,
 Value.int IntKind.i64 mb,
 Value.int IntKind.i64 dl, Value.slice p n c]
 0]
 w' w' →
 nn (decide (x_21 > 0)) q fun (b o : Nat) =>
 gimp (decide (x_21 > 0))
 (0 ≤ x ∧ x < (↑k : Int)) ∧
 ∃ (f : Nat → Int),
 ∃ (p_6 : Option Addr),
 ∃ (n_7 : Nat),
 ∃ (c_6 : Nat),
 ∃ (x_22 : ByteArray),
 ∃ (x_23 : Int),
 ∃ (x_24 : Bool),
 ∃ (x_25 : ByteArray),
 ∃ (x_26 : Int),
 gimp (decide (x_21 > 0))
 (∀ (W : World),
 Loc w.heap.size
 [Blk.mk n_1 24
 [Value.string nb,
 Value.string ps,
 Value.int IntKind.i64 mb,
 Value.int IntKind.i64 dl,
 Value.slice p n c]
 0]
 w' W →
 AtL W b (o + x.toNat * 38)
 (arrI IntKind.u8 f 32 0 ++ [Value.slice p_6 n_7 c_6,
 Value.string x_22,
 Value.int IntKind.i64 x_23,
 Value.bool x_24,
 Value.string x_25,
 Value.int IntKind.i64 x_26])) ∧
 nn (decide (x_21 > 0)) p_1
 fun (b o : Nat) =>
 gimp (decide (x_21 > 0))
 (0 ≤ IntKind.i64.wrap (x_21 - 1) ∧
 IntKind.i64.wrap (x_21 - 1) <
 (↑n_2 : Int)) ∧
 ∃ (f_1 : Nat → Int),
 ∃ (p_7 : Option Addr),
 ∃ (n_8 : Nat),
 ∃ (c_7 : Nat),
 ∃ (x : ByteArray),
 ∃ (x_27 : Int),
 ∃ (x_28 : Bool),
 ∃ (x_29 : ByteArray),
 ∃ (x_30 : Int),
 gimp (decide (x_21 > 0))
 (∀ (W : World),
 Loc w.heap.size
 [Blk.mk n_1 24
 [Value.string nb,
 Value.string ps,
 Value.int
 IntKind.i64 mb,
 Value.int
 IntKind.i64 dl,
 Value.slice p n c]
 0]
 w' W →
 AtL W b
 (o +
 (IntKind.i64.wrap
 (x_21 -
 1)).toNat *
 38)
 (arrI IntKind.u8 f_1 32 0 ++ [Value.slice p_7 n_8
 c_7,
 Value.string x,
 Value.int
 IntKind.i64 x_27,
 Value.bool x_28,
 Value.string x_29,
 Value.int
 IntKind.i64
 x_30])) ∧
 ∀ (W : World),
 Loc w.heap.size
 [Blk.mk n_1 24
 [Value.string nb,
 Value.string ps,
 Value.int
 IntKind.i64 mb,
 Value.int
 IntKind.i64 dl,
 Value.slice p n c]
 0]
 w' W →
 bsp (decide (x_21 > 0))
 (CallsS Tryz.prog 31
 #[Value.agg
 #[Value.string nb,
 Value.string ps,
 Value.int
 IntKind.i64 mb,
 Value.int
 IntKind.i64 dl,
 Value.slice p n
 c],
 Value.agg
 (arrI IntKind.u8 f 32 0 ++ [Value.slice p_6
 n_7 c_6,
 Value.string x_22,
 Value.int
 IntKind.i64 x_23,
 Value.bool x_24,
 Value.string x_25,
 Value.int
 IntKind.i64
 x_26]).toArray,
 Value.agg
 (arrI IntKind.u8 f_1 32 0 ++ [Value.slice p_7
 n_8 c_7,
 Value.string x,
 Value.int
 IntKind.i64 x_27,
 Value.bool x_28,
 Value.string x_29,
 Value.int
 IntKind.i64
 x_30]).toArray]
 W
 fun (e : Ending)
 (w'_3 : World) =>
 ∃ (x : Bool),
 e =
 Ending.returned
 (Value.bool x) ∧
 KeptL [n_1] W
 w'_3 ∧
 bsp (true && x)
 (I
 [Value.int
 IntKind.i64
 (IntKind.i64.wrap
 (x_21 - 1))]
 w'_3 ∧
 m
 [Value.int
 IntKind.i64
 (IntKind.i64.wrap
 (x_21 -
 1))]
 w'_3 <
 m
 [Value.int
 IntKind.i64
 x_21]
 w')
 (J
 [Value.int
 IntKind.i64
 x_21]
 w'_3))
 (KeptL [n_1] W W ∧
 J
 [Value.int
 IntKind.i64 x_21]
 W)) ∧
 ∀ (x_21 : Int) (w'_3 : World),
 J [Value.int IntKind.i64 x_21] w'_3 →
 Loc w.heap.size
 [Blk.mk n_1 24
 [Value.string nb, Value.string ps,
 Value.int IntKind.i64 mb,
 Value.int IntKind.i64 dl, Value.slice p n c]
 0]
 w'_3 w'_3 →
 ∀ (n_7 : Nat),
 (0 ≤ x_21 ∧ x_21 ≤ (↑c_1 : Int)) ∧
 ∀ (W : World),
 Loc w.heap.size
 [Blk.mk n_1 24
 [Value.string nb, Value.string ps,
 Value.int IntKind.i64 mb,
 Value.int IntKind.i64 dl, Value.slice p n c]
 0,
 Blk.mk n_7 70 [] 2]
 w'_3 W →
 ∃ (base : Nat),
 ∃ (xs : List Value),
 ∃ (news : List Value),
 W.ownsRow base 70 38
 (Value.slice (some (Addr.mk n_7 0 none)) 0
 0)
 0 xs ∧
 news.length = x_21.toNat * 38 ∧
 SrcP W p_1 news ∧
 0 + x_21.toNat ≤ 9223372036854775807 ∧
 (0 + x_21.toNat) * 112 ≤
 140737488355328 ∧
 base ≤ W.heap.size ∧
 ∀ (p' : Option Addr) (c' : Nat)
 (w'_4 : World),
 w'_4.ownsRow base 70 38
 (Value.slice p' (0 + x_21.toNat) c')
 (0 + x_21.toNat) (xs ++ news) →
 W.grownBy w'_4
 (Value.slice
 (some (Addr.mk n_7 0 none)) 0
 0).ownBlock →
 KeptL [n_1] W w'_4 ∧
 nn true q fun (b o : Nat) =>
 (0 ≤ x ∧ x < (↑k : Int)) ∧
 ∃ (f : Nat → Int),
 ∃ (p_6 : Option Addr),
 ∃ (n_8 : Nat),
 ∃ (c_6 : Nat),
 ∃ (x_22 : ByteArray),
 ∃ (x_23 : Int),
 ∃ (x_24 : Bool),
 ∃ (x_25 : ByteArray),
 ∃ (x_26 : Int),
 AtL w'_4 b
 (o + x.toNat * 38)
 (arrI IntKind.u8 f 32 0 ++ [Value.slice p_6 n_8
 c_6,
 Value.string x_22,
 Value.int IntKind.i64
 x_23,
 Value.bool x_24,
 Value.string x_25,
 Value.int IntKind.i64
 x_26]) ∧
 ∀ (n_9 : Nat)
 (W : World),
 Loc w.heap.size
 [Blk.mk n_1 24
 [Value.string nb,
 Value.string ps,
 Value.int
 IntKind.i64 mb,
 Value.int
 IntKind.i64 dl,
 Value.slice p n
 c]
 0,
 Blk.mk n_9 70
 (arrI IntKind.u8 f 32 0 ++ [Value.slice p_6
 n_8 c_6,
 Value.string
 x_22,
 Value.int
 IntKind.i64
 x_23,
 Value.bool x_24,
 Value.string
 x_25,
 Value.int
 IntKind.i64
 x_26])
 2]
 w'_4 W →
 ∃ (base : Nat),
 ∃ (xs : List Value),
 W.ownsRow base 70
 38
 (Value.slice p'
 (0 + x_21.toNat)
 c')
 (0 + x_21.toNat)
 xs ∧
 0 + x_21.toNat +
 1 ≤
 9223372036854775807 ∧
 (0 + x_21.toNat +
 1) *
 112 ≤
 140737488355328 ∧
 base ≤
 W.heap.size ∧
 ∀
 (p'_1 :
 Option Addr)
 (c'_1 : Nat)
 (w'_5 :
 World),
 w'_5.ownsRow
 base 70 38
 (Value.slice
 p'_1
 (0 +
 x_21.toNat +
 1)
 c'_1)
 (0 +
 x_21.toNat +
 1)
 (xs ++
 (arrI IntKind.u8 f 32 0 ++ [Value.slice
 p_6 n_8
 c_6,
 Value.string
 x_22,
 Value.int
 IntKind.i64
 x_23,
 Value.bool
 x_24,
 Value.string
 x_25,
 Value.int
 IntKind.i64
 x_26])) →
 W.grownBy
 w'_5
 (Value.slice
 p'
 (0 +
 x_21.toNat)
 c').ownBlock →
 KeptL [n_1]
 W w'_5 ∧
 (0 ≤ x_21 ∧
 x_21 ≤
 (↑n_2 :
 Int)) ∧
 ∃ (base :
 Nat),
 ∃ (xs :
 List
 Value),
 ∃ (news
 :
 List
 Value),
 w'_5.ownsRow
 base
 70 38
 (Value.slice
 p'_1
 (0 +
 x_21.toNat +
 1)
 c'_1)
 (0 +
 x_21.toNat +
 1)
 xs ∧
 news.length =
 (n_2 -
 x_21.toNat) *
 38 ∧
 SrcP
 w'_5
 (slA
 p_1
 c_1
 x_21.toNat
 38)
 news ∧
 0 +
 x_21.toNat +
 1 +
 (n_2 -
 x_21.toNat) ≤
 9223372036854775807 ∧
 (0 +
 x_21.toNat +
 1 +
 (n_2 -
 x_21.toNat)) *
 112 ≤
 140737488355328 ∧
 base ≤
 w'_5.heap.size ∧
 ∀
 (p' :
 Option
 Addr)
 (c' :
 Nat)
 (w'_6 :
 World),
 w'_6.ownsRow
 base
 70
 38
 (Value.slice
 p'
 (0 +
 x_21.toNat +
 1 +
 (n_2 -
 x_21.toNat))
 c')
 (0 +
 x_21.toNat +
 1 +
 (n_2 -
 x_21.toNat))
 (xs ++
 news) →
 w'_5.grownBy
 w'_6
 (Value.slice
 p'_1
 (0 +
 x_21.toNat +
 1)
 c'_1).ownBlock →
 KeptL
 [n_1]
 w'_5
 w'_6 ∧
 I
 [Value.int
 IntKind.i64
 (IntKind.i64.wrap
 (x +
 1)),
 Value.slice
 p'
 (0 +
 x_21.toNat +
 1 +
 (n_2 -
 x_21.toNat))
 c']
 w'_6 ∧
 m
 [Value.int
 IntKind.i64
 (IntKind.i64.wrap
 (x +
 1)),
 Value.slice
 p'
 (0 +
 x_21.toNat +
 1 +
 (n_2 -
 x_21.toNat))
 c']
 w'_6 <
 m
 [Value.int
 IntKind.i64
 x,
 Value.slice
 p_1
 n_2
 c_1]
 w'))
 (KeptL [n_1] W w'_1 ∧
 I
 [Value.int IntKind.i64 (IntKind.i64.wrap (x + 1)),
 Value.slice p_1 n_2 c_1]
 w'_1 ∧
 m
 [Value.int IntKind.i64 (IntKind.i64.wrap (x + 1)),
 Value.slice p_1 n_2 c_1]
 w'_1 <
 m [Value.int IntKind.i64 x, Value.slice p_1 n_2 c_1] w'))
 (∃ (I : List Value → World → Prop),
 ∃ (m : List Value → World → Nat),
 I [Value.int IntKind.i64 0, Value.slice none 0 0] w' ∧
 ∀ (x : Int) (p_2 : Option Addr) (n_3 c_2 : Nat) (w' : World),
 I [Value.int IntKind.i64 x, Value.slice p_2 n_3 c_2] w' →
 Loc w.heap.size
 [Blk.mk n_1 24
 [Value.string nb, Value.string ps, Value.int IntKind.i64 mb, Value.int IntKind.i64 dl,
 Value.slice p n c]
 0]
 w' w' →
 bsp (decide (x < (↑n_2 : Int)))
 (∃ (I_1 : List Value → World → Prop),
 ∃ (m_1 : List Value → World → Nat),
 I_1 [Value.int IntKind.i64 0, Value.bool false] w' ∧
 ∀ (x_1 : Int) (x_2 : Bool) (w'_1 : World),
 I_1 [Value.int IntKind.i64 x_1, Value.bool x_2] w'_1 →
 Loc w.heap.size
 [Blk.mk n_1 24
 [Value.string nb, Value.string ps, Value.int IntKind.i64 mb, Value.int IntKind.i64 dl,
 Value.slice p n c]
 0]
 w'_1 w'_1 →
 bsp (decide (x_1 < (↑n_3 : Int)))
 (nn (!x_2) p_2 fun (b o : Nat) =>
 gimp (!x_2) (0 ≤ x_1 ∧ x_1 < (↑n_3 : Int)) ∧
 ∃ (f : Nat → Int),
 gimp (!x_2)
 (∀ (W : World),
 Loc w.heap.size
 [Blk.mk n_1 24
 [Value.string nb, Value.string ps, Value.int IntKind.i64 mb, Value.int IntKind.i64 dl,
 Value.slice p n c]
 0]
 w'_1 W →
 AtL W b (o + x_1.toNat * 32)
 (arrI IntKind.u8 f 32 0)) ∧
 nn (!x_2) p_1 fun (b o : Nat) =>
 gimp (!x_2) (0 ≤ x ∧ x < (↑n_2 : Int)) ∧
 ∃ (f_1 : Nat → Int),
 gimp (!x_2)
 (∀ (W : World),
 Loc w.heap.size
 [Blk.mk n_1 24
 [Value.string nb, Value.string ps, Value.int IntKind.i64 mb,
 Value.int IntKind.i64 dl, Value.slice p n c]
 0]
 w'_1 W →
 AtL W b (o + x.toNat * 38)
 (arrI IntKind.u8 f_1 32 0)) ∧
 ∃ (r : Bool),
 gimp (!x_2)
 (EqP Tryz.prog 42
 (Value.agg
 (arrI IntKind.u8 f 32 0).toArray)
 (Value.agg
 (arrI IntKind.u8 f_1 32 0).toArray)
 r) ∧
 ∀ (W : World),
 Loc w.heap.size
 [Blk.mk n_1 24
 [Value.string nb, Value.string ps, Value.int IntKind.i64 mb,
 Value.int IntKind.i64 dl, Value.slice p n c]
 0]
 w'_1 W →
 I_1 [Value.int IntKind.i64 (IntKind.i64.wrap (x_1 + 1)), Value.bool (x_2 || r)] W ∧
 m_1 [Value.int IntKind.i64 (IntKind.i64.wrap (x_1 + 1)), Value.bool (x_2 || r)] W <
 m_1 [Value.int IntKind.i64 x_1, Value.bool x_2] w'_1)
 (bsp (!x_2)
 (nn true p_1 fun (b o : Nat) =>
 (0 ≤ x ∧ x < (↑n_2 : Int)) ∧
 ∃ (f : Nat → Int),
 AtL w'_1 b (o + x.toNat * 38)
 (arrI IntKind.u8 f 32 0) ∧
 ∀ (n_4 : Nat) (W : World),
 Loc w.heap.size
 [Blk.mk n_1 24
 [Value.string nb, Value.string ps, Value.int IntKind.i64 mb, Value.int IntKind.i64 dl,
 Value.slice p n c]
 0,
 Blk.mk n_4 42
 (arrI IntKind.u8 f 32 0)
 2]
 w'_1 W →
 ∃ (base : Nat),
 ∃ (xs : List Value),
 W.ownsRow base 42 32 (Value.slice p_2 n_3 c_2) n_3 xs ∧
 n_3 + 1 ≤ 9223372036854775807 ∧
 (n_3 + 1) * 32 ≤ 140737488355328 ∧
 base ≤ W.heap.size ∧
 ∀ (p' : Option Addr) (c' : Nat) (w'_2 : World),
 w'_2.ownsRow base 42 32 (Value.slice p' (n_3 + 1) c') (n_3 + 1)
 (xs ++
 (arrI IntKind.u8 f 32 0)) →
 W.grownBy w'_2 (Value.slice p_2 n_3 c_2).ownBlock →
 KeptL [n_1] W w'_2 ∧
 I
 [Value.int IntKind.i64 (IntKind.i64.wrap (x + 1)),
 Value.slice p' (n_3 + 1) c']
 w'_2 ∧
 m
 [Value.int IntKind.i64 (IntKind.i64.wrap (x + 1)),
 Value.slice p' (n_3 + 1) c']
 w'_2 <
 m [Value.int IntKind.i64 x, Value.slice p_2 n_3 c_2] w')
 (I [Value.int IntKind.i64 (IntKind.i64.wrap (x + 1)), Value.slice p_2 n_3 c_2] w'_1 ∧
 m [Value.int IntKind.i64 (IntKind.i64.wrap (x + 1)), Value.slice p_2 n_3 c_2] w'_1 <
 m [Value.int IntKind.i64 x, Value.slice p_2 n_3 c_2] w')))
 (R (Ending.returned (Value.slice p_2 n_3 c_2)) w'))
theorem vc_rselect (nb : ByteArray) (ps : ByteArray) (mb : Int) (dl : Int) (p : Option Addr) (n : Nat) (c : Nat) (q : Option Addr) (k : Nat) (d : Nat) (now : Int) (w : World) (R : Ending → World → Prop) (h : VC_rselect nb ps mb dl p n c q k d now w R) : Calls Tryz.prog 10 ([Value.agg
    #[Value.string nb, Value.string ps, Value.int IntKind.i64 mb, Value.int IntKind.i64 dl, Value.slice p n c],
  Value.slice q k d, Value.int IntKind.i64 now] : List Value).toArray w R := by
  have e : execR2 { P := Tryz.prog, loops := [(3, [(8, Ck.int IntKind.i64), (7, Ck.slice)]), (7, [(9, Ck.int IntKind.i64)]), (14, [(12, Ck.int IntKind.i64), (11, Ck.slice)]), (18, [(14, Ck.int IntKind.i64), (13, Ck.bool)])], pur := pur1, tails := [(5, 5), (7, 13)], joins := [(9, [(9, Ck.int IntKind.i64)])], boxes := [] } Tryz.f10.results.toList R (Tryz.f10.body.getD .skip) (initF [Value.agg
    #[Value.string nb, Value.string ps, Value.int IntKind.i64 mb, Value.int IntKind.i64 dl, Value.slice p n c],
  Value.slice q k d,
  Value.int IntKind.i64
    now] (Tryz.f10.ntmps - ([Value.agg
    #[Value.string nb, Value.string ps, Value.int IntKind.i64 mb, Value.int IntKind.i64 dl, Value.slice p n c],
  Value.slice q k d,
  Value.int IntKind.i64 now] : List Value).length)) w = VC_rselect nb ps mb dl p n c q k d now w R := by kernel_rfl
  have hb : Tryz.f10.body = some (Tryz.f10.body.getD .skip) := by kernel_rfl
  exact calls_of_exec2' (P := Tryz.prog) (fn := Tryz.f10) (c := Tryz.f10.body.getD .skip) (args := [Value.agg
    #[Value.string nb, Value.string ps, Value.int IntKind.i64 mb, Value.int IntKind.i64 dl, Value.slice p n c],
  Value.slice q k d, Value.int IntKind.i64 now]) (w := w) (R := R) pur1_ok Tryz.func10 hb e h

end Go.Proofs.YtcpjajjocmpkjaaGreatDoor

/- The contract of the reference's Select. Names have at most 2^47 bytes; identities are bytes. -/
namespace Go.Proofs.YtcpjajjocmpkjaaGreatDoor
open Go.RowKit Go.Sort

/-- An item that is due. -/
def passB (nb : ByteArray) (mb dl : Int) (ds : List ByteArray) (es : List Ent) (now : Int) (x : It) : Bool := decide (rsnS nb mb ds es x = 0) && decide (dueS dl x.ar ≤ now)
theorem pass_snoc (f : It → Bool) (l : List It) (x : It) : (l ++ [x]).filter f = l.filter f ++ (if f x = true then [x] else []) := by
  rw [List.filter_append]
  congr 1
  cases h : f x <;> simp [h]
abbrev srt (l : List Key) : Prop := l.Pairwise fun x y => ¬ cfK y x < 0

theorem idEq2 {l l' : List Int} (hl : l.length = 32) (hb : ∀ x ∈ l, 0 ≤ x ∧ x ≤ 255) (hl' : l'.length = 32) (hb' : ∀ x ∈ l', 0 ≤ x ∧ x ≤ 255) : EqP Tryz.prog 42 (byA l) (byA l') (decide (l = l')) :=
  eq_bytes Tryz.underlying42 Tryz.underlying5 (by kernel_rfl) (by kernel_rfl) (by kernel_rfl) (by decide +kernel) (by kernel_rfl) (by kernel_rfl) hl hb hl' hb'
set_option maxRecDepth 100000 in
set_option maxHeartbeats 4000000 in
theorem rselect_any (nb ps : ByteArray) (mb dl : Int) (p : Option Addr) (c : Nat) (ds : List ByteArray) (es : List Ent) (q : Option Addr) (k d : Nat) (L : List ItA) (now : Int) (w : World) {base : Nat} (hps : ps.size ≤ 1073741824) (hL : listR ps = .inl es) (hds : StrP w p ds) (hl : ds.length ≤ 1073741824) (hdl : 0 ≤ dl ∧ dl ≤ 20160)
    (hI : ItR 70 base w q k d L) (hk : k ≤ 20) (hok : ∀ y ∈ L, y.1.gs.length ≤ 1073741824 ∧ (∀ z ∈ y.1.gs, z.size ≤ 140737488355328) ∧ (-9223372036854775808 ≤ y.1.ar ∧ y.1.ar ≤ 9223372036854775807) ∧ ∀ j, 0 ≤ y.1.id j ∧ y.1.id j ≤ 255) :
    Calls Tryz.prog 10 #[.agg #[.string nb, .string ps, .int .i64 mb, .int .i64 dl, .slice p ds.length c], .slice q k d, .int .i64 now] w fun e w' => ∃ (S : List It) (p' : Option Addr) (c' : Nat),
      S.Perm ((L.map (·.1)).filter (passB nb mb dl ds es now)) ∧ srt (S.map (keyI dl)) ∧
      e = .returned (.slice p' (ddS [] (S.map fun x => idI x.id)).length c') ∧ w'.ownsRow w.heap.size 42 32 (.slice p' (ddS [] (S.map fun x => idI x.id)).length c') (ddS [] (S.map fun x => idI x.id)).length ((ddS [] (S.map fun x => idI x.id)).flatMap byL) ∧ K0 w w' := by
  refine vc_rselect nb ps mb dl p ds.length c q k d now w _ ?_
  intro n1 W hW
  have kW : K0 w W := hW.k0 (.refl _ _)
  have hLk := hI.len
  refine ⟨fun vs w' => ∃ (i : Nat) (S : List ItA) (p1 : Option Addr) (c1 : Nat), vs = [.int .i64 (i : Int), .slice p1 S.length c1] ∧ i ≤ L.length ∧ S.length ≤ i ∧ (∀ y ∈ S, y ∈ L) ∧ (S.map (·.1)).Perm (((L.take i).map (·.1)).filter (passB nb mb dl ds es now)) ∧ srt ((S.map (·.1)).map (keyI dl)) ∧
      w'.ownsRow w.heap.size 70 38 (.slice p1 S.length c1) S.length (S.flatMap itC) ∧ K0 w w',
    fun vs _ => (match vs with | .int _ x :: _ => L.length - x.toNat | _ => 0), ⟨0, [], none, 0, rfl, by omega, by simp, (fun _ h => by cases h), .refl _, .nil, World.ownsRow_nil _ _ _ _, kW⟩, ?_⟩
  rintro x p1 n2 c1 w1 ⟨i, S, p1', c1', hv, hi, hSi, hSL, hperm, hsrt, ho, k1⟩ hL1
  simp only [List.cons.injEq, Value.int.injEq, Value.slice.injEq, true_and, and_true] at hv
  obtain ⟨rfl, rfl, rfl, rfl⟩ := hv
  refine bsp_intro (fun hlt => ?_) (fun hge => ?_)
  · have hlt : i < L.length := by simp at hlt; omega
    obtain ⟨y, hy⟩ : ∃ y, L[i]? = some y := ⟨_, List.getElem?_eq_getElem hlt⟩
    have hyL : y ∈ L := List.mem_of_getElem? hy
    obtain ⟨hy1, hy2, hy3, hy4⟩ := hok y hyL
    have htk : (L.take (i + 1)).map (·.1) = (L.take i).map (·.1) ++ [y.1] := by rw [List.take_add_one, hy, List.map_append]; rfl
    obtain ⟨g, rfl, hat⟩ := hI.at_ hy
    obtain ⟨_, _, hgs, _, _⟩ := own_strP (hI.gs y hyL)
    have f1 : IntKind.i64.wrap ((i : Int) + 1) = ((i + 1 : Nat) : Int) := by rw [wr64 (by omega) (by omega)]; omega
    rw [f1]
    -- the item is passed by
    have stay : ∀ wx, K0 w wx → K0 w1 wx → passB nb mb dl ds es now y.1 = false → (∃ (i' : Nat) (S' : List ItA) (p9 : Option Addr) (c9 : Nat), ([.int .i64 ((i + 1 : Nat) : Int), .slice p1 S.length c1] : List Value) = [.int .i64 (i' : Int), .slice p9 S'.length c9] ∧ i' ≤ L.length ∧ S'.length ≤ i' ∧ (∀ y ∈ S', y ∈ L) ∧ (S'.map (·.1)).Perm (((L.take i').map (·.1)).filter (passB nb mb dl ds es now)) ∧ srt ((S'.map (·.1)).map (keyI dl)) ∧
        wx.ownsRow w.heap.size 70 38 (.slice p9 S'.length c9) S'.length (S'.flatMap itC) ∧ K0 w wx) := fun wx h1 h2 hno =>
      ⟨i + 1, S, p1, c1, rfl, by omega, by omega, hSL, by rw [htk, pass_snoc, hno]; simpa using hperm, hsrt, owns_kp ho h2 (fun _ _ h => h), h1⟩
    intro W1 hW1
    have kk1 : K0 w1 W1 := hW1.kk rfl
    refine ⟨fun w' => K0 W1 w', .refl _ _, nb, ps, mb, dl, p, ds.length, c, fun w' h => AtL_block (h.blk (hW1.cells 0 rfl) (fun h => h)) rfl, ?_⟩
    show (0 ≤ (i : Int) ∧ (i : Int) < (k : Int)) ∧ _
    rw [Int.toNat_natCast]
    refine ⟨by omega, y.1.id, y.2.1, y.1.gs.length, y.2.2, y.1.d, y.1.by_, y.1.ct, y.1.fr, y.1.ar, fun w' h => hat.k0 ((k1.trans kk1).trans h), ?_⟩
    refine ⟨(rreason_any nb ps mb dl p c ds y.1 y.2.1 y.2.2 es W1 hps hL (hds.kp (k1.trans kk1) (fun _ _ _ h => h)) hl (hgs.kp (k1.trans kk1) (fun _ _ _ h => h)) hy1 hy2).mono fun e w2 ⟨he, hk2⟩ => ⟨_, he, hk2, ?_⟩⟩
    have kw2 : K0 w w2 := (k1.trans kk1).trans hk2
    have k12 : K0 w1 w2 := kk1.trans hk2
    generalize hrs : rsnS nb mb ds es y.1 = rs
    refine ⟨nb, ps, mb, dl, p, ds.length, c, gimp_intro fun _ w' h => AtL_block (h.blk (hW1.cells 0 rfl) (fun h => h)) rfl, ?_⟩
    show gimp _ (0 ≤ (i : Int) ∧ (i : Int) < (k : Int)) ∧ _
    refine ⟨gimp_intro fun _ => by omega, y.1.id, y.2.1, y.1.gs.length, y.2.2, y.1.d, y.1.by_, y.1.ct, y.1.fr, y.1.ar, gimp_intro fun _ w' h => hat.k0 ((k1.trans kk1).trans h), ?_⟩
    refine bsp_intro (fun h0 => ?_) (fun h0 => ⟨.of_k0 hk2, stay w2 kw2 k12 ?_, by simp only [Int.toNat_natCast]; omega⟩)
    rotate_left
    · have : ¬ rs = 0 := by simpa using h0
      unfold passB
      simp [hrs, this]
    have h0 : rs = 0 := by simpa using h0
    refine ⟨(rdue_any nb ps mb dl p ds.length c y.1 y.2.1 y.2.2 w2 hdl hy3).mono fun e w3 ⟨he, hk3⟩ => ⟨_, he, .of_k0 (hk2.trans hk3), ?_⟩⟩
    have kw3 : K0 w w3 := kw2.trans hk3
    have k13 : K0 w1 w3 := k12.trans hk3
    refine bsp_intro (fun hd => ⟨stay w3 kw3 k13 ?_, by simp only [Int.toNat_natCast]; omega⟩) (fun hd => ?_)
    · have : ¬ dueS dl y.1.ar ≤ now := by simp at hd; omega
      unfold passB
      simp [this]
    have hd : dueS dl y.1.ar ≤ now := by simp at hd; omega
    have hyes : passB nb mb dl ds es now y.1 = true := by unfold passB; simp [hrs, h0, hd]
    have oneS : ∀ u ∈ S.flatMap itC, u.oneCell' = true := fun u hu => by obtain ⟨z, _, hz⟩ := List.mem_flatMap.1 hu; exact itC_one z u hz
    have lenS : ∀ z ∈ S, (itC z).length = 38 := fun z _ => itC_length z
    refine ⟨fun vs wx => ∃ a : Nat, vs = [.int .i64 (a : Int)] ∧ a ≤ S.length ∧ (∀ z ∈ S.drop a, cfK (keyI dl y.1) (keyI dl z.1) < 0) ∧ (∀ z, S[a - 1]? = some z → a ≠ 0 → ¬ cfK (keyI dl y.1) (keyI dl z.1) < 0) ∧ K0 w3 wx, ?_, ?_⟩
    · refine ⟨fun vs wx => ∃ a : Nat, vs = [.int .i64 (a : Int)] ∧ a ≤ S.length ∧ (∀ z ∈ S.drop a, cfK (keyI dl y.1) (keyI dl z.1) < 0) ∧ K0 w3 wx, fun vs _ => (match vs with | .int _ x :: _ => x.toNat | _ => 0), ⟨S.length, rfl, Nat.le_refl _, by simp, .refl _ _⟩, ?_⟩
      rintro x wx ⟨a, hv, ha, hdr, kx⟩ hLx
      simp only [List.cons.injEq, Value.int.injEq, true_and, and_true] at hv
      subst hv
      rcases Nat.eq_zero_or_pos a with ha0 | hpos
      · subst ha0
        have hd0 : decide (((0 : Nat) : Int) > 0) = false := by decide
        rw [hd0]
        show gimp false _ ∧ _
        refine ⟨trivial, y.1.id, y.2.1, y.1.gs.length, y.2.2, y.1.d, y.1.by_, y.1.ct, y.1.fr, y.1.ar, trivial, nn_off fun b o => ⟨trivial, fun _ => 0, none, 0, 0, ByteArray.empty, 0, false, ByteArray.empty, 0, trivial, fun Wx hWx => ⟨.refl _ _, 0, rfl, by omega, hdr, (fun z _ h => absurd rfl h), kx.trans (hWx.kk rfl)⟩⟩⟩
      · have hd1 : decide ((a : Int) > 0) = true := by simp; omega
        rw [hd1]
        obtain ⟨z, hz⟩ : ∃ z, S[a - 1]? = some z := ⟨_, List.getElem?_eq_getElem (by omega)⟩
        have hzL := hSL z (List.mem_of_getElem? hz)
        obtain ⟨_, _, hz3, hz4⟩ := hok z hzL
        obtain ⟨g1, rfl, hat1⟩ := own_at itC ho lenS (by decide) hz
        have f2 : IntKind.i64.wrap ((a : Int) - 1) = ((a - 1 : Nat) : Int) := by rw [wr64 (by omega) (by omega)]; omega
        rw [f2]
        show gimp true (0 ≤ (i : Int) ∧ (i : Int) < (k : Int)) ∧ _
        refine ⟨gimp_intro fun _ => by omega, y.1.id, y.2.1, y.1.gs.length, y.2.2, y.1.d, y.1.by_, y.1.ct, y.1.fr, y.1.ar, gimp_intro fun _ Wx hWx => hat.k0 ((kw3.trans kx).trans (hWx.kk rfl)), ?_⟩
        show gimp true (0 ≤ ((a - 1 : Nat) : Int) ∧ ((a - 1 : Nat) : Int) < (S.length : Int)) ∧ _
        rw [Int.toNat_natCast]
        refine ⟨gimp_intro fun _ => by omega, z.1.id, z.2.1, z.1.gs.length, z.2.2, z.1.d, z.1.by_, z.1.ct, z.1.fr, z.1.ar, gimp_intro fun _ Wx hWx => hat1.k0 ((k13.trans kx).trans (hWx.kk rfl)), fun Wx hWx => ?_⟩
        have kxx : K0 wx Wx := hWx.kk rfl
        refine bsp_intro (fun _ => ?_) (fun h => absurd h (by decide))
        refine ⟨(rbefore_any nb ps mb dl p ds.length c y.1 z.1 y.2.1 z.2.1 y.2.2 z.2.2 Wx hdl hy3 hz3 hy4 hz4).mono fun e w4 ⟨he, hk4⟩ => ⟨_, he, .of_k0 hk4, ?_⟩⟩
        have k34 : K0 w3 w4 := (kx.trans kxx).trans hk4
        refine bsp_intro (fun hb => ⟨⟨a - 1, rfl, by omega, fun z' hz' => ?_, k34⟩, by simp only [Int.toNat_natCast]; omega⟩) (fun hb => ⟨a, rfl, ha, hdr, fun z' hz' _ => ?_, k34⟩)
        · have hb : cfK (keyI dl y.1) (keyI dl z.1) < 0 := by simpa using hb
          have hlt' : a - 1 < S.length := by omega
          rw [List.drop_eq_getElem_cons hlt', show a - 1 + 1 = a by omega] at hz'
          rw [List.getElem?_eq_getElem hlt'] at hz
          simp at hz
          rcases List.mem_cons.1 hz' with h | h
          · rw [h, hz]; exact hb
          · exact hdr z' h
        · have hb : ¬ cfK (keyI dl y.1) (keyI dl z.1) < 0 := by simpa using hb
          rw [hz] at hz'
          simp at hz'
          rw [← hz']; exact hb
    · rintro x wx ⟨a, hv, ha, hdr, hlo, kx⟩ hLx
      simp only [List.cons.injEq, Value.int.injEq, true_and, and_true] at hv
      subst hv
      intro n7
      have hc1 : S.length ≤ c1 := own_le ho
      have hn1 : n1 < wx.heap.size := block_lt (hLx.cells 0 rfl)
      refine ⟨by omega, fun W4 hW4 => ?_⟩
      rw [Int.toNat_natCast]
      have kx4 : K0 wx W4 := hW4.kk rfl
      have hn7 : wx.heap.size ≤ n7 := hW4.fresh 1 rfl rfl
      have kwx : K0 w wx := kw3.trans kx
      have k1x : K0 w1 wx := k13.trans kx
      have ho4 := owns_kp ho (k1x.trans kx4) (fun _ _ h => h)
      have hlenS := ho.1
      refine ⟨wx.heap.size, [], (S.flatMap itC).take (a * 38), own_none hn7 (hW4.cells 1 rfl), ?_, src_take ho4 oneS _, by omega, by omega, kx4.size, fun p4 c4 w5 ho5 hg5 => ?_⟩
      · rw [List.length_take, hlenS]
        exact Nat.min_eq_left (Nat.mul_le_mul_right _ ha)
      have hk5 := kp_grown hg5
      have k5 : K0 wx w5 := kx4.fresh hk5 (fun j hj e => by simp only [Value.ownBlock, Option.some.injEq] at e; omega)
      refine ⟨.of_kp hk5 (fun m hm e => by
        simp only [Value.ownBlock, Option.some.injEq] at e
        simp at hm
        omega), ?_⟩
      show (0 ≤ (i : Int) ∧ (i : Int) < (k : Int)) ∧ _
      refine ⟨by omega, y.1.id, y.2.1, y.1.gs.length, y.2.2, y.1.d, y.1.by_, y.1.ct, y.1.fr, y.1.ar, hat.k0 (kwx.trans k5), fun n9 W6 hW6 => ?_⟩
      have k56 : K0 w5 W6 := hW6.kk rfl
      have ho6 := owns_kp ho5 k56 (fun _ _ h => h)
      refine ⟨wx.heap.size, _, ho6, by omega, by omega, Nat.le_trans k5.size k56.size, fun p7 c7 w7 ho7 hg7 => ?_⟩
      have hk7 := kp_grown hg7
      have k7 : K0 wx w7 := (k5.trans k56).fresh hk7 (fun j hj e => by have := own_ge ho6 e; omega)
      refine ⟨.of_kp hk7 (fun m hm e => by
        have := own_ge ho6 e
        simp at hm
        omega), by omega, ?_⟩
      have ho1 := owns_kp ho (k1x.trans k7) (fun _ _ h => h)
      refine ⟨wx.heap.size, _, (S.flatMap itC).drop (a * 38), ho7, ?_, src_drop ho1 oneS ha, by omega, by omega, k7.size, fun p8 c8 w8 ho8 hg8 => ?_⟩
      · rw [List.length_drop, hlenS, Nat.sub_mul]
      have hk8 := kp_grown hg8
      have k8 : K0 wx w8 := k7.fresh hk8 (fun j hj e => by have := own_ge ho7 e; omega)
      have hlen : (S.take a ++ y :: S.drop a).length = 0 + a + 1 + (S.length - a) := by simp; omega
      refine ⟨.of_kp hk8 (fun m hm e => by
        have := own_ge ho7 e
        simp at hm
        omega), ⟨i + 1, S.take a ++ y :: S.drop a, p8, c8, by rw [hlen], by omega, by rw [hlen]; omega, fun z hz => ?_, ?_, ?_, ?_, kwx.trans k8⟩, by simp only [Int.toNat_natCast]; omega⟩
      · rcases List.mem_append.1 hz with h | h
        · exact hSL z (List.mem_of_mem_take h)
        · rcases List.mem_cons.1 h with h | h
          · rw [h]; exact hyL
          · exact hSL z (List.mem_of_mem_drop h)
      · rw [htk, pass_snoc, if_pos hyes]
        have e1 : (S.take a ++ y :: S.drop a).Perm (y :: S) := by
          have := (List.perm_middle (a := y) (l₁ := S.take a) (l₂ := S.drop a))
          rw [List.take_append_drop] at this
          exact this
        refine (e1.map (·.1)).trans ?_
        rw [List.map_cons]
        exact (hperm.cons _).trans (List.perm_append_singleton _ _).symm
      · have e1 : ((S.take a ++ y :: S.drop a).map (·.1)).map (keyI dl) = ((S.map (·.1)).map (keyI dl)).take a ++ keyI dl y.1 :: ((S.map (·.1)).map (keyI dl)).drop a := by
          simp [List.map_take, List.map_drop]
        rw [e1]
        refine ins_sorted hsrt (fun z hz => ?_) (fun z hz h0 => ?_) (by simpa using ha)
        · rw [← List.map_drop, ← List.map_drop] at hz
          obtain ⟨u, hu, rfl⟩ := List.mem_map.1 hz
          obtain ⟨v, hv, rfl⟩ := List.mem_map.1 hu
          exact hdr v hv
        · rw [List.getElem?_map, List.getElem?_map] at hz
          cases hS : S[a - 1]? with
          | none => rw [hS] at hz; cases hz
          | some u =>
            rw [hS] at hz
            simp at hz
            rw [← hz]
            exact hlo u hS h0
      · rw [hlen]
        have e2 : (S.take a ++ y :: S.drop a).flatMap itC = ([] ++ (S.flatMap itC).take (a * 38)) ++ itC y ++ (S.flatMap itC).drop (a * 38) := by
          rw [take_flat itC 38 S a lenS, drop_flat itC 38 S a lenS, List.flatMap_append, List.flatMap_cons]
          simp
        rw [e2]
        exact own_base ho8 kwx.size
  · have hiL : i = L.length := by simp at hge; omega
    subst hiL
    rw [List.take_length] at hperm
    have lenS : ∀ z ∈ S, (itC z).length = 38 := fun z _ => itC_length z
    have hn1 : n1 < w1.heap.size := block_lt (hL1.cells 0 rfl)
    have len20 : S.length ≤ 20 := by omega
    have bdS : ∀ z ∈ S, ∀ j, 0 ≤ z.1.id j ∧ z.1.id j ≤ 255 := fun z hz => (hok z (hSL z hz)).2.2.2
    refine ⟨fun vs wx => ∃ (j : Nat) (acc : List (List Int)) (p5 : Option Addr) (c5 : Nat), vs = [.int .i64 (j : Int), .slice p5 acc.length c5] ∧ j ≤ S.length ∧ acc.length ≤ j ∧ ddS acc ((S.drop j).map fun z => idI z.1.id) = ddS [] (S.map fun z => idI z.1.id) ∧ (∀ x ∈ acc, ∃ z ∈ S, x = idI z.1.id) ∧ wx.ownsRow w1.heap.size 42 32 (.slice p5 acc.length c5) acc.length (acc.flatMap byL) ∧ K0 w1 wx,
      fun vs _ => (match vs with | .int _ x :: _ => S.length - x.toNat | _ => 0), ⟨0, [], none, 0, rfl, by omega, by simp, rfl, (fun _ h => by cases h), World.ownsRow_nil _ _ _ _, .refl _ _⟩, ?_⟩
    rintro x p2 n3 c2 wx ⟨j, acc, p5, c5, hv, hj, haj, hdd, hacc, hoa, kx⟩ hLx
    simp only [List.cons.injEq, Value.int.injEq, Value.slice.injEq, true_and, and_true] at hv
    obtain ⟨rfl, rfl, rfl, rfl⟩ := hv
    have lenA : ∀ u ∈ acc, (byL u).length = 32 := fun u hu => by
      obtain ⟨z, _, rfl⟩ := hacc u hu
      unfold byL; rw [List.length_map]; exact idI_len _
    refine bsp_intro (fun hlt => ?_) (fun hge => ?_)
    · have hlt : j < S.length := by simpa using hlt
      obtain ⟨z, hz⟩ : ∃ z, S[j]? = some z := ⟨_, List.getElem?_eq_getElem hlt⟩
      have hzS := List.mem_of_getElem? hz
      have hzb := bdS z hzS
      have hdr : S.drop j = z :: S.drop (j + 1) := by
        rw [List.drop_eq_getElem_cons hlt]
        rw [List.getElem?_eq_getElem hlt] at hz
        simp at hz
        rw [hz]
      rw [hdr, List.map_cons, ddS_cons] at hdd
      obtain ⟨g, rfl, hat⟩ := own_at itC ho lenS (by decide) hz
      have hatI : AtL w1 g (0 + j * 38) (arrI .u8 z.1.id 32 0) := AtL.left (l2 := [Value.slice z.2.1 z.1.gs.length z.2.2, Value.string z.1.d, Value.int .i64 z.1.by_, Value.bool z.1.ct, Value.string z.1.fr, Value.int .i64 z.1.ar]) hat
      rw [Int.toNat_natCast]
      refine ⟨fun vs wy => ∃ b : Nat, vs = [.int .i64 (b : Int), .bool (decide (idI z.1.id ∈ acc.take b))] ∧ b ≤ acc.length ∧ K0 wx wy, fun vs _ => (match vs with | .int _ x :: _ => acc.length - x.toNat | _ => 0), ⟨0, by simp, by omega, .refl _ _⟩, ?_⟩
      rintro x1 x2 wy ⟨b, hv, hb, ky⟩ hLy
      simp only [List.cons.injEq, Value.int.injEq, Value.bool.injEq, true_and, and_true] at hv
      obtain ⟨rfl, rfl⟩ := hv
      refine bsp_intro (fun hlt2 => ?_) (fun hge2 => ?_)
      · have hlt2 : b < acc.length := by simpa using hlt2
        obtain ⟨u, hu⟩ : ∃ u, acc[b]? = some u := ⟨_, List.getElem?_eq_getElem hlt2⟩
        obtain ⟨zu, hzu, rfl⟩ := hacc u (List.mem_of_getElem? hu)
        obtain ⟨g2, rfl, hat2⟩ := own_at byL hoa lenA (by decide) hu
        have f2 : IntKind.i64.wrap ((b : Int) + 1) = ((b + 1 : Nat) : Int) := by rw [wr64 (by omega) (by omega)]; omega
        rw [f2, Int.toNat_natCast]
        show gimp _ (0 ≤ (b : Int) ∧ (b : Int) < (acc.length : Int)) ∧ _
        refine ⟨gimp_intro fun _ => by omega, zu.1.id, gimp_intro fun _ Wy hWy => hat2.k0 (ky.trans (hWy.kk rfl)), ?_⟩
        show gimp _ (0 ≤ (j : Int) ∧ (j : Int) < (S.length : Int)) ∧ _
        refine ⟨gimp_intro fun _ => by omega, z.1.id, gimp_intro fun _ Wy hWy => hatI.k0 ((kx.trans ky).trans (hWy.kk rfl)), decide (idI zu.1.id = idI z.1.id), gimp_intro fun _ => idEq2 (idI_len _) (idI_bd (bdS zu hzu)) (idI_len _) (idI_bd hzb), fun Wy hWy => ⟨⟨b + 1, ?_, by omega, ky.trans (hWy.kk rfl)⟩, by simp only [Int.toNat_natCast]; omega⟩⟩
        have : acc.take (b + 1) = acc.take b ++ [idI zu.1.id] := by rw [List.take_add_one, hu]; rfl
        rw [this]
        congr 3
        rw [Bool.eq_iff_iff]
        simp only [Bool.or_eq_true, decide_eq_true_eq, List.mem_append, List.mem_singleton]
        constructor
        · rintro (h | h)
          · exact .inl h
          · exact .inr h.symm
        · rintro (h | h)
          · exact .inl h
          · exact .inr h.symm
      · have : b = acc.length := by simp at hge2; omega
        subst this
        rw [List.take_length]
        have f1 : IntKind.i64.wrap ((j : Int) + 1) = ((j + 1 : Nat) : Int) := by rw [wr64 (by omega) (by omega)]; omega
        rw [f1]
        refine bsp_intro (fun hm => ?_) (fun hm => ⟨⟨j + 1, acc, p2, c2, rfl, by omega, by omega, ?_, hacc, owns_kp hoa ky (fun _ _ h => h), kx.trans ky⟩, by simp only [Int.toNat_natCast]; omega⟩)
        · have hm : ¬ idI z.1.id ∈ acc := by simpa using hm
          rw [if_neg hm] at hdd
          show (0 ≤ (j : Int) ∧ (j : Int) < (S.length : Int)) ∧ _
          refine ⟨by omega, z.1.id, hatI.k0 (kx.trans ky), fun n4 Wy hWy => ?_⟩
          have kyy : K0 wy Wy := hWy.kk rfl
          have ho2 := owns_kp hoa (ky.trans kyy) (fun _ _ h => h)
          refine ⟨w1.heap.size, _, ho2, by omega, by omega, Nat.le_trans kx.size (Nat.le_trans ky.size kyy.size), fun p' c' w9 ho9 hg9 => ?_⟩
          have hk9 := kp_grown hg9
          refine ⟨.of_kp hk9 (fun m hm e => by
            have := own_ge ho2 e
            simp at hm
            omega), ⟨j + 1, acc ++ [idI z.1.id], p', c', by rw [List.length_append]; rfl, by omega, by rw [List.length_append]; simp; omega, hdd, fun x hx => ?_, ?_, ((kx.trans ky).trans kyy).fresh hk9 (fun q hq e => by have := own_ge ho2 e; omega)⟩, by simp only [Int.toNat_natCast]; omega⟩
          · rcases List.mem_append.1 hx with h | h
            · exact hacc x h
            · simp at h; exact ⟨z, hzS, h⟩
          · rw [List.length_append, List.flatMap_append]
            have : ([idI z.1.id].flatMap byL) = arrI .u8 z.1.id 32 0 := by rw [arrI_idI]; simp [byL]
            rw [this]
            exact ho9
        · have hm : idI z.1.id ∈ acc := by simpa using hm
          rw [if_pos hm] at hdd
          exact hdd
    · have : j = S.length := by simp at hge; omega
      subst this
      rw [List.drop_length] at hdd
      have hdd : acc = ddS [] (S.map fun z => idI z.1.id) := hdd
      have e1 : (S.map (·.1)).map (fun x => idI x.id) = S.map fun z => idI z.1.id := by rw [List.map_map]; rfl
      refine ⟨S.map (·.1), p2, c2, hperm, hsrt, ?_, ?_, k1.trans kx⟩
      · rw [e1, ← hdd]
      · rw [e1, ← hdd]
        exact own_base hoa k1.size

end Go.Proofs.YtcpjajjocmpkjaaGreatDoor

/- The statement FeedruleSelects on worlds: it returns true and leaves what was there as it was. Names have at most 2^47 bytes. -/
namespace Go.Proofs.YtcpjajjocmpkjaaGreatDoor
open Go.RowKit Go.Sort

theorem chk_dl' {nb ps : ByteArray} {mb dl : Int} {ds : List ByteArray} {es : List Ent} (hL : listR ps = .inl es) (h0 : chkS nb ps mb dl ds = 0) : 0 ≤ dl ∧ dl ≤ 20160 := by
  unfold chkS at h0
  split at h0
  · rename_i h; exact absurd h0 h
  · rw [hL] at h0
    simp only at h0
    split at h0
    · cases h0
    · rename_i h; omega
theorem idI_idB {f : Nat → Int} (h : ∀ j, 0 ≤ f j ∧ f j ≤ 255) : idI f = (idB f).map fun b => (b.toNat : Int) := by
  unfold idB
  rw [List.map_map]
  conv => lhs; rw [← List.map_id (idI f)]
  refine List.map_congr_left fun x hx => ?_
  have := idI_bd h x hx
  have e : x.toNat < 256 := by omega
  simp [Nat.toUInt8, Nat.mod_eq_of_lt e]
  omega
theorem cands_pass (nb : ByteArray) (mb dl : Int) (ds : List ByteArray) (es : List Ent) (now : Int) : ∀ l : List It, candsOf nb mb dl ds es now l = (l.filter (passB nb mb dl ds es now)).map fun x => (dueS dl x.ar, x.id)
  | [] => rfl
  | x :: l => by
    have ih := cands_pass nb mb dl ds es now l
    unfold candsOf at ih ⊢
    rw [List.filterMap_cons]
    by_cases h : rsnS nb mb ds es x = 0 ∧ dueS dl x.ar ≤ now
    · have hp : passB nb mb dl ds es now x = true := by unfold passB; simp [h.1, h.2]
      rw [if_pos h, List.filter_cons, if_pos hp, List.map_cons, ih]
    · have hp : ¬ passB nb mb dl ds es now x = true := by unfold passB; simpa using h
      rw [if_neg h, List.filter_cons, if_neg hp]
      exact ih
/-- Both selections are one. -/
theorem sel_eq {nb : ByteArray} {mb dl : Int} {ds : List ByteArray} {es : List Ent} {now : Int} {M S : List It} {cs : List Cand} (h1 : cs.Perm (candsOf nb mb dl ds es now M)) (h2 : ∀ (i j : Nat) (x y : Cand), i < j → cs[i]? = some x → cs[j]? = some y → ¬ cfC y x < 0)
    (h3 : S.Perm (M.filter (passB nb mb dl ds es now))) (h4 : srt (S.map (keyI dl))) (hb : ∀ x ∈ M, ∀ j, 0 ≤ x.id j ∧ x.id j ≤ 255) : (cs.map fun x => idI x.2) = S.map fun x => idI x.id := by
  rw [cands_pass] at h1
  have hp : (cs.map keyC).Perm (S.map (keyI dl)) := by
    refine (h1.map keyC).trans ?_
    rw [List.map_map]
    exact (h3.map _).symm
  have hs : srt (cs.map keyC) := by
    refine List.pairwise_iff_getElem.2 fun i j hi hj hij => ?_
    rw [List.length_map] at hi hj
    rw [List.getElem_map, List.getElem_map, ← cfC_key]
    exact h2 i j _ _ hij (List.getElem?_eq_getElem hi) (List.getElem?_eq_getElem hj)
  have hk := keys_eq hp hs h4
  have bS : ∀ x ∈ S, ∀ j, 0 ≤ x.id j ∧ x.id j ≤ 255 := fun x hx => hb x (List.mem_filter.1 (h3.mem_iff.1 hx)).1
  have bC : ∀ x ∈ cs, ∀ j, 0 ≤ x.2 j ∧ x.2 j ≤ 255 := fun x hx => by
    obtain ⟨y, hy, rfl⟩ := List.mem_map.1 (h1.mem_iff.1 hx)
    exact hb y (List.mem_filter.1 hy).1
  have e1 : (cs.map fun x => idI x.2) = (cs.map keyC).map fun k => k.2.map fun b => (b.toNat : Int) := by
    rw [List.map_map]
    exact List.map_congr_left fun x hx => idI_idB (bC x hx)
  have e2 : (S.map fun x => idI x.id) = (S.map (keyI dl)).map fun k => k.2.map fun b => (b.toNat : Int) := by
    rw [List.map_map]
    exact List.map_congr_left fun x hx => idI_idB (bS x hx)
  rw [e1, e2, hk]
theorem ddS_len : ∀ (l acc : List (List Int)), (ddS acc l).length ≤ acc.length + l.length
  | [], acc => by simp [ddS]
  | a :: r, acc => by
    rw [ddS_cons]
    split
    · have := ddS_len r acc; simp; omega
    · have := ddS_len r (acc ++ [a]); simp at this ⊢; omega

set_option maxRecDepth 100000 in
set_option maxHeartbeats 4000000 in
theorem lselects_any (nb ps : ByteArray) (mb dl : Int) (p : Option Addr) (c : Nat) (ds : List ByteArray) (q : Option Addr) (n d : Nat) (L : List ItA) (now : Int) (w : World) (hG : GW w) (hds : StrP w p ds) (hdz : ∀ z ∈ ds, z.size ≤ 9223372036854775807) (hA : ArgI w q n L)
    (hok : ∀ y ∈ L, (∀ z ∈ y.1.gs, z.size ≤ 140737488355328) ∧ (-9223372036854775808 ≤ y.1.ar ∧ y.1.ar ≤ 9223372036854775807) ∧ ∀ j, 0 ≤ y.1.id j ∧ y.1.id j ≤ 255) :
    Calls Tryz.prog 3 #[.agg #[.string nb, .string ps, .int .i64 mb, .int .i64 dl, .slice p ds.length c], .slice q n d, .int .i64 now] w fun e w' => e = .returned (.bool true) ∧ K0 w w' := by
  refine vc_selectsL nb ps mb dl p ds.length c q n d now w _ ?_
  intro n1 W hW
  have kW : K0 w W := hW.k0 (.refl _ _)
  refine ⟨(to_any nb ps mb dl p c ds W (hds.kp kW (fun _ _ _ h => h))).mono fun e w3 he => ?_⟩
  obtain ⟨p1, p2, c1, c2, he, ho1, ho2, hne, hk3⟩ := he
  refine ⟨_, _, _, _, _, _, _, _, _, _, _, _, _, _, he, .of_k0 hk3, fun n4 n5 W4 hW4 => ?_⟩
  have k34 : K0 w3 W4 := hW4.kk rfl
  have k4 : K0 w W4 := (kW.trans hk3).trans k34
  generalize hnb : nb.extract 0 (min nb.size 40) = nb' at *
  generalize hps : ps.extract 0 (min ps.size 300) = ps' at *
  have hps' : ps'.size ≤ 300 := by rw [← hps, ByteArray.size_extract]; omega
  have hd10 : (ds.take 10).length ≤ 10 := by rw [List.length_take]; omega
  have hdz' : ∀ z ∈ ds.take 10, z.size ≤ 9223372036854775807 := fun z hz => hdz z (List.mem_of_mem_take hz)
  generalize ds.take 10 = ds' at *
  obtain ⟨_, hc1, hs1, _, _⟩ := own_strP (owns_kp ho1 k34 (fun _ _ h => h))
  obtain ⟨_, hc2, hs2, _, _⟩ := own_strP (owns_kp ho2 k34 (fun _ _ h => h))
  refine ⟨(fcompile_any nb' ps' mb dl p1 c1 ds' W4 (by omega) (hG.kp k4 (fun h => h)) hs1 hc1 (by omega)).mono fun e w5 ⟨hk5, he⟩ => ?_⟩
  have k5 : K0 w w5 := k4.trans hk5
  have gw5 := hG.kp k5 (fun h => h)
  rcases he with ⟨h0, he⟩ | ⟨h0, b, es, hL, he, hf⟩
  · refine ⟨_, _, he, .of_k0 hk5, bsp_intro (fun _ => ?_) (fun h => ?_)⟩
    · refine ⟨(known_any w5 gw5).mono fun e w6 ⟨he, hk6⟩ => ⟨_, he, .of_k0 hk6, bsp_intro (fun _ => ?_) (fun h => absurd h (by decide))⟩⟩
      refine ⟨(rcheck_any nb' ps' mb dl p2 c2 ds' w6 (by omega) (hs2.kp (hk5.trans hk6) (fun _ _ _ h => h)) hc2 (by omega) hdz').mono fun e w7 ⟨he, hk7⟩ => ⟨_, he, .of_k0 hk7, ?_, (k5.trans hk6).trans hk7⟩⟩
      simp
    · exfalso; simp at h
  refine ⟨_, _, he, .of_k0 hk5, bsp_intro (fun h => absurd h (by simp)) (fun _ => ?_)⟩
  obtain ⟨h64, h80⟩ := listR_ok hL
  have hdlb := chk_dl' hL h0
  have hA5 : ArgI w5 q n L := ⟨hA.len, fun k y hy => by
    obtain ⟨b, o, h1, h2, h3, h4⟩ := hA.at_ k y hy
    exact ⟨b, o, h1, h2.k0 k5, h3.kp k5 (fun _ _ _ h => h), h4⟩⟩
  refine ⟨(items_any' q n d L w5 hA5).mono fun e w6 he => ?_⟩
  obtain ⟨pa, pb, ca, cb, L1, L2, he, hI1, hI2, hm1, hm2, hk6⟩ := he
  have old : ∀ (LL : List ItA), LL.map (·.1) = (L.take 20).map (·.1.cut) → ∀ y ∈ LL, (y.1.gs.length ≤ 20 ∧ ∀ z ∈ y.1.gs, z.size ≤ 140737488355328) ∧ (-9223372036854775808 ≤ y.1.ar ∧ y.1.ar ≤ 9223372036854775807) ∧ ∀ j, 0 ≤ y.1.id j ∧ y.1.id j ≤ 255 := fun LL hm y hy => by
    have : y.1 ∈ LL.map (·.1) := List.mem_map.2 ⟨y, hy, rfl⟩
    rw [hm] at this
    obtain ⟨z, hz, e⟩ := List.mem_map.1 this
    obtain ⟨h1, h2, h3⟩ := hok z (List.mem_of_mem_take hz)
    rw [← e]
    refine ⟨⟨?_, fun u hu => h1 u (List.mem_of_mem_take hu)⟩, h2, h3⟩
    show (z.1.gs.take 20).length ≤ _
    rw [List.length_take]; omega
  refine ⟨_, _, _, _, _, _, he, .of_k0 hk6, fun W6 hW6 => ?_⟩
  have k66 : K0 w6 W6 := hW6.kk rfl
  have k5W : K0 w5 W6 := hk6.trans k66
  refine ⟨fun w' => K0 W6 w', .refl _ _, nb', ps', mb, dl, p2, ds'.length, c2, fun w' h => AtL_block (h.blk (hW6.cells 0 rfl) (fun h => h)) rfl, ?_⟩
  refine ⟨(select_any (hf.kp k5W (fun _ _ _ h => h)) h64 h80 (by omega) hdlb (hI1.kp k66) (by omega) (fun y hy => by
    obtain ⟨⟨h1, h2⟩, h3, h4⟩ := old L1 hm1 y hy
    exact ⟨⟨by omega, fun z hz => by have := h2 z hz; omega⟩, h3, h4⟩) now).mono fun e wa he => ?_⟩
  obtain ⟨cs1, pc, cc, hperm1, hsort1, he, hrow1, hka⟩ := he
  refine ⟨_, _, _, he, hka, ?_⟩
  refine ⟨(rselect_any nb' ps' mb dl p2 c2 ds' es pb (min n 20) cb L2 now wa (by omega) hL (hs2.kp ((hk5.trans k5W).trans hka) (fun _ _ _ h => h)) (by omega) hdlb (hI2.kp (k66.trans hka)) (by omega) (fun y hy => by
    obtain ⟨⟨h1, h2⟩, h3, h4⟩ := old L2 hm2 y hy
    exact ⟨by omega, h2, h3, h4⟩)).mono fun e wb he => ?_⟩
  obtain ⟨S, pd, cd, hperm2, hsrt2, he, hrow2, hkb⟩ := he
  have hids : (cs1.map fun x => idI x.2) = S.map fun x => idI x.id := by
    rw [hm1] at hperm1
    rw [hm2] at hperm2
    refine sel_eq hperm1 hsort1 hperm2 hsrt2 (fun x hx => ?_)
    rw [← hm1] at hx
    obtain ⟨y, hy, rfl⟩ := List.mem_map.1 hx
    exact (old L1 hm1 y hy).2.2
  have hlenS : S.length ≤ 20 := by
    have h1 := hperm2.length_eq
    have h2 := List.length_filter_le (passB nb' mb dl ds' es now) (L2.map (·.1))
    have h3 := hI2.len
    rw [List.length_map] at h2
    omega
  have hbS : ∀ x ∈ S, ∀ j, 0 ≤ x.id j ∧ x.id j ≤ 255 := fun x hx => by
    have := (List.mem_filter.1 (hperm2.mem_iff.1 hx)).1
    obtain ⟨y, hy, rfl⟩ := List.mem_map.1 this
    exact (old L2 hm2 y hy).2.2
  refine ⟨_, _, _, he, .of_k0 (hka.trans hkb), ?_⟩
  rw [hids] at hrow1 ⊢
  have mem : ∀ x ∈ ddS [] (S.map fun x => idI x.id), ∃ y ∈ S, idI y.id = x := fun x hx => by
    rw [ddS_mem] at hx
    rcases hx with h | h
    · cases h
    · exact List.mem_map.1 h
  have len : (ddS [] (S.map fun x => idI x.id)).length ≤ 20 := by
    have := ddS_len (S.map fun x => idI x.id) []
    rw [List.length_map] at this
    simp at this
    omega
  generalize ddS [] (S.map fun x => idI x.id) = ids at *
  have lenA : ∀ u ∈ ids, (byL u).length = 32 := fun u hu => by
    obtain ⟨z, _, rfl⟩ := mem u hu
    unfold byL; rw [List.length_map]; exact idI_len _
  have hrow1' := owns_kp hrow1 hkb (fun _ _ h => h)
  refine bsp_intro (fun h => by exfalso; simp at h) (fun _ => ?_)
  have kb : K0 w wb := ((k5.trans k5W).trans hka).trans hkb
  refine count1 ids.length (by omega) (fun k wx => K0 wb wx) (.refl _ _) ?_
  intro I m k wx hk kx next hLx
  refine bsp_intro (fun hlt => ?_) (fun _ => ?_)
  · have hlt : k < ids.length := by simpa using hlt
    obtain ⟨x, hx⟩ : ∃ x, ids[k]? = some x := ⟨_, List.getElem?_eq_getElem hlt⟩
    obtain ⟨z, hz, rfl⟩ := mem x (List.mem_of_getElem? hx)
    obtain ⟨g1, rfl, hat1⟩ := own_at byL hrow1' lenA (by decide) hx
    obtain ⟨g2, rfl, hat2⟩ := own_at byL hrow2 lenA (by decide) hx
    show (0 ≤ (k : Int) ∧ (k : Int) < (ids.length : Int)) ∧ _
    rw [Int.toNat_natCast]
    refine ⟨by omega, z.id, fun Wx hWx => hat1.k0 (kx.trans (hWx.kk rfl)), ?_⟩
    show (0 ≤ (k : Int) ∧ (k : Int) < (ids.length : Int)) ∧ _
    refine ⟨by omega, z.id, fun Wx hWx => hat2.k0 (kx.trans (hWx.kk rfl)), true, ?_, bsp_intro (fun h => absurd h (by decide)) (fun _ Wx hWx => next hlt Wx (kx.trans (hWx.kk rfl)))⟩
    have := idEq2 (idI_len z.id) (idI_bd (hbS z hz)) (idI_len z.id) (idI_bd (hbS z hz))
    rw [show decide (idI z.id = idI z.id) = true by simp] at this
    exact this
  · have kall : K0 w wx := kb.trans kx
    exact ⟨(known_any wx (hG.kp kall (fun h => h))).mono fun e wz ⟨he, hkz⟩ => ⟨_, he, .of_k0 hkz, rfl, kall.trans hkz⟩⟩

end Go.Proofs.YtcpjajjocmpkjaaGreatDoor

/- What an argument that was read gives, with its size: strings and slices have at most 2^47 - 4096 bytes. Generic. No condition. -/
namespace Go.Proofs.YtcpjajjocmpkjaaGreatDoor
open Go.ChangeShapes Go.WideShapes Go.ChangeAt Go.RowKit Go.Deep

theorem weightsAll_mem {H : Type} {P : Program} {e : TypeId} : ∀ {l : List (DataW H)} {d : DataW H}, d ∈ l → ∀ n ∈ d.weights P e, n ∈ DataW.weightsAll P e l
  | y :: l, d, hd, n, hn => by
    simp only [DataW.weightsAll, List.mem_append]
    rcases List.mem_cons.1 hd with rfl | h
    · exact .inl hn
    · exact .inr (weightsAll_mem h n hn)
/-- Cells that were read as a value of a type; no part is too great. -/
def Rw {H : Type} (enc : TypeId × Value → H) (P : Program) (W : World) (t : TypeId) (cs : List Value) : Prop := ∃ (fuel : Nat) (x : DataW H × List MemPlace), DataW.trod enc P W 0 (fun _ => true) true fuel t cs = some x ∧ ∀ n ∈ x.1.weights P t, n ≤ reachBytes
section
variable {H : Type} {enc : TypeId × Value → H} {P : Program} {W : World} {t : TypeId} {cs : List Value}
theorem Rw.rd (h : Rw enc P W t cs) : Rd enc P W t cs := by obtain ⟨f, x, h, _⟩ := h; exact ⟨f, x, h⟩
theorem Rw.of {v : Value} {d : DataW H} {ps : List MemPlace} {ts : List TypeId} {ds : List (DataW H)} (h : DataW.Trod enc P W 0 (fun _ => true) true t v d ps) (hz : (DataW.weightsEach P ts ds).all (· ≤ reachBytes) = true) (j : Nat) (ht : ts[j]? = some t) (hd : ds[j]? = some d) : Rw enc P W t v.cells.toList := by
  obtain ⟨fuel, h⟩ := h
  exact ⟨fuel, _, h, fun n hn => by simpa using List.all_eq_true.1 hz _ (DataW.weights_mem_each ht hd n hn)⟩
theorem Rw.field {fs : Array Field} (h : Rw enc P W t cs) (ht : P.underlying t = some (.struct fs)) {i : Nat} {f : Field} (hf : fs[i]? = some f) : Rw enc P W f.type ((cs.drop f.offset).take (P.cellsOf f.type)) := by
  obtain ⟨fuel, x, h, hw⟩ := h
  obtain ⟨xs, n, _, rfl, _, hl, hg⟩ := DataW.trod_struct ht h
  have hi : i < xs.length := by rw [hl]; exact (Array.getElem?_eq_some_iff.1 hf).1
  refine ⟨n, xs[i], by rw [hg i f hf, List.getElem?_eq_getElem hi], fun m hm => hw m ?_⟩
  simp only [DataW.weights, ht]
  refine DataW.weights_mem_each (j := i) (t := f.type) (d := xs[i].1) ?_ ?_ m hm
  · rw [List.getElem?_map, Array.getElem?_toList, hf]; rfl
  · rw [List.getElem?_map, List.getElem?_eq_getElem hi]; rfl
theorem Rw.int64 (h : Rw enc P W t cs) (ht : P.underlying t = some (.int .i64)) : ∃ n : Int, cs = [.int .i64 n] ∧ -9223372036854775808 ≤ n ∧ n ≤ 9223372036854775807 := by
  obtain ⟨n, h1, h2⟩ := h.rd.int ht
  have : IntKind.i64.min ≤ n ∧ n ≤ IntKind.i64.max := by simpa [Lit.wf] using h2
  exact ⟨n, h1, this⟩
theorem Rw.int8 (h : Rw enc P W t cs) (ht : P.underlying t = some (.int .u8)) : ∃ n : Int, cs = [.int .u8 n] ∧ 0 ≤ n ∧ n ≤ 255 := by
  obtain ⟨n, h1, h2⟩ := h.rd.int ht
  have : IntKind.u8.min ≤ n ∧ n ≤ IntKind.u8.max := by simpa [Lit.wf] using h2
  exact ⟨n, h1, this⟩
theorem Rw.bool (h : Rw enc P W t cs) (ht : P.underlying t = some .bool) : ∃ b, cs = [.bool b] := h.rd.bool ht
theorem Rw.str (h : Rw enc P W t cs) (ht : P.underlying t = some .string) : ∃ s : ByteArray, cs = [.string s] ∧ s.size ≤ 140737488351232 := by
  obtain ⟨fuel, x, h, hw⟩ := h
  obtain ⟨s, h1, rfl, _⟩ := DataW.trod_string ht h
  refine ⟨s, h1, ?_⟩
  have := hw s.data.toList.length (by simp [DataW.weights])
  simpa [reachBytes] using this
/-- A slice that was read: its elements. -/
theorem Rw.slice {e : TypeId} (h : Rw enc P W t cs) (ht : P.underlying t = some (.slice e)) (hp : 0 < P.cellsOf e) : ∃ (p : Option Addr) (n c : Nat), cs = [.slice p n c] ∧ n ≤ c ∧ c * P.bytesOf e ≤ 140737488351232 ∧ c ≤ 9223372036854775807 ∧
    ∀ i, i < n → ∃ (b o : Nat) (cs' : List Value), p = some ⟨b, o, none⟩ ∧ cs'.length = P.cellsOf e ∧ (∀ j v, cs'[j]? = some v → W.cell? ⟨b, o + i * P.cellsOf e + j, none⟩ = some v) ∧ Rw enc P W e cs' := by
  obtain ⟨fuel, x, h, hw⟩ := h
  rcases open_slice ht h with ⟨h0, _⟩ | ⟨a, len, cap, m, nn, D, Pl, hcs, hb, hl, hm, hmm, rfl, hi⟩
  · exact ⟨none, 0, 0, h0, by omega, by omega, by omega, fun i hi => by omega⟩
  · have hmc : m = cap := by rw [hmm]; rfl
    have hwt := hw ((len + (m - len)) * P.bytesOf e) (by simp [DataW.weights, ht])
    rw [hmc, show len + (cap - len) = cap by omega] at hwt
    refine ⟨some a, len, cap, hcs, hl, by simpa [reachBytes] using hwt, by unfold maxLen at hm; omega, fun i hilt => ?_⟩
    obtain ⟨cs', hc, ht'⟩ := hi i (by omega)
    obtain ⟨_, hlen, hat⟩ := World.cells?_some hc
    have hspot : a.spot = none := by
      obtain ⟨cs0, hc0, _⟩ := hi 0 (by omega)
      obtain ⟨_, hl0, ha0⟩ := World.cells?_some hc0
      have h00 := ha0 0 hp
      rw [List.getElem?_eq_getElem (by omega)] at h00
      have := World.cell?_spot h00
      simpa [Addr.add] using this
    obtain ⟨b, o, sp⟩ := a
    simp only at hspot
    subst hspot
    refine ⟨b, o, cs', rfl, hlen, fun j v hj => ?_, nn, _, ht', fun k hk => hw k ?_⟩
    · have hjl : j < P.cellsOf e := by have := (List.getElem?_eq_some_iff.1 hj).1; omega
      have := hat j hjl
      rw [addr_add2, hj] at this
      exact this
    · simp only [DataW.weights, ht, List.mem_cons, List.mem_append]
      exact .inr (.inl (weightsAll_mem (List.mem_map.2 ⟨i, List.mem_range.2 hilt, rfl⟩) k hk))
/-- A slice of strings that was read. -/
theorem Rw.strs {e : TypeId} (h : Rw enc P W t cs) (ht : P.underlying t = some (.slice e)) (he : P.underlying e = some .string) (h1 : P.cellsOf e = 1) : ∃ (p : Option Addr) (zs : List ByteArray) (c : Nat), cs = [.slice p zs.length c] ∧ zs.length ≤ c ∧ c * P.bytesOf e ≤ 140737488351232 ∧ StrP W p zs ∧ ∀ z ∈ zs, z.size ≤ 140737488351232 := by
  obtain ⟨p, n, c, hcs, hnc, hcb, _, hel⟩ := h.slice ht (by omega)
  have key : ∀ i, i < n → ∃ z : ByteArray, z.size ≤ 140737488351232 ∧ ∃ b o, p = some ⟨b, o, none⟩ ∧ W.cell? ⟨b, o + i, none⟩ = some (.string z) := fun i hi => by
    obtain ⟨b, o, cs', hp, hl, hc, hr⟩ := hel i hi
    obtain ⟨z, rfl, hz⟩ := hr.str he
    have := hc 0 _ rfl
    rw [h1] at this
    exact ⟨z, hz, b, o, hp, by simpa using this⟩
  have hex : ∃ g : Nat → ByteArray, ∀ i, i < n → (g i).size ≤ 140737488351232 ∧ ∃ b o, p = some ⟨b, o, none⟩ ∧ W.cell? ⟨b, o + i, none⟩ = some (.string (g i)) := by
    refine ⟨fun i => if h : i < n then Classical.choose (key i h) else ByteArray.empty, fun i hi => ?_⟩
    simp only [hi, dif_pos]
    exact Classical.choose_spec (key i hi)
  obtain ⟨g, hg⟩ := hex
  refine ⟨p, (List.range n).map g, c, by simpa using hcs, by simpa using hnc, hcb, fun j z hj => ?_, fun z hz => ?_⟩
  · rw [List.getElem?_map] at hj
    rcases Nat.lt_or_ge j n with h | h
    · simp [h] at hj
      subst hj
      exact (hg j h).2
    · simp [h] at hj
  · obtain ⟨i, hi, rfl⟩ := List.mem_map.1 hz
    exact (hg i (List.mem_range.1 hi)).1
/-- An array of bytes that was read. -/
theorem Rw.bytes {n : Nat} {e : TypeId} (h : Rw enc P W t cs) (ht : P.underlying t = some (.array n e)) (he : P.underlying e = some (.int .u8)) (h1 : P.cellsOf e = 1) (hn : P.cellsOf t = n) : ∃ f : Nat → Int, cs = arrI .u8 f n 0 ∧ ∀ j, 0 ≤ f j ∧ f j ≤ 255 := by
  obtain ⟨fuel, x, h, _⟩ := h
  obtain ⟨xs, m, _, _, hl, hxl, hg⟩ := DataW.trod_array ht h
  rw [hn] at hl
  have key : ∀ i, i < n → ∃ z : Int, cs[i]? = some (.int .u8 z) ∧ 0 ≤ z ∧ z ≤ 255 := fun i hi => by
    have h2 := hg i hi
    rw [h1, List.getElem?_eq_getElem (by omega)] at h2
    obtain ⟨z, hz, _, hw⟩ := DataW.trod_int he h2
    refine ⟨z, ?_, ?_⟩
    · have : (cs.drop (i * 1)).take 1 = [cs[i]'(by omega)] := by
        rw [Nat.mul_one, List.drop_eq_getElem_cons (by omega)]; rfl
      rw [this] at hz
      simp at hz
      rw [List.getElem?_eq_getElem (by omega), hz]
    · have : IntKind.u8.min ≤ z ∧ z ≤ IntKind.u8.max := by simpa [Lit.wf] using hw
      exact this
  refine ⟨fun i => if h : i < n then Classical.choose (key i h) else 0, arrI_ext .u8 _ n 0 cs hl (fun j hj => ?_), fun j => ?_⟩
  · rw [Nat.zero_add]
    simp only [hj, dif_pos]
    exact (Classical.choose_spec (key j hj)).1
  · by_cases h : j < n
    · simp only [h, dif_pos]; exact (Classical.choose_spec (key j h)).2
    · simp only [h, dif_neg, not_false_iff]; omega
end

end Go.Proofs.YtcpjajjocmpkjaaGreatDoor

/- The reference's rules and items as arguments. No condition. -/
namespace Go.Proofs.YtcpjajjocmpkjaaGreatDoor
open Go.ChangeShapes Go.WideShapes Go.ChangeAt Go.RowKit Go.Deep
section
variable {H : Type} {enc : TypeId × Value → H} {W : World} {base : Nat} {v : Value} {d : DataW H} {ps : List MemPlace}
theorem cellsR : Tryz.prog.cellsOf 24 = 5 := by kernel_rfl
theorem cellsI : Tryz.prog.cellsOf 70 = 38 := by kernel_rfl
set_option maxRecDepth 100000 in
theorem open_R (hv : Value.okWide Tryz.prog W .any base 24 v) (h : DataW.Trod enc Tryz.prog W 0 (fun _ => true) true 24 v d ps) :
    ∃ (nb ps : ByteArray) (mb dl : Int) (p : Option Addr) (ds : List ByteArray) (c : Nat), v = .agg #[.string nb, .string ps, .int .i64 mb, .int .i64 dl, .slice p ds.length c] ∧ ds.length ≤ c ∧ StrP W p ds ∧ ∀ z ∈ ds, z.size ≤ 9223372036854775807 := by
  obtain ⟨cs, rfl, hsz⟩ := okWide_struct Tryz.underlying24 hv
  have hr := Rd.of h
  rw [cellsR] at hsz
  obtain ⟨l⟩ := cs
  match l, hsz with
  | [c0, c1, c2, c3, c4], _ =>
    have hr : Rd enc Tryz.prog W 24 [c0, c1, c2, c3, c4] := hr
    obtain ⟨s0, e0, _⟩ := Rd.str (cs := [c0]) (hr.field Tryz.underlying24 (i := 0) rfl) Tryz.underlying9
    obtain ⟨s1, e1, _⟩ := Rd.str (cs := [c1]) (hr.field Tryz.underlying24 (i := 1) rfl) Tryz.underlying9
    obtain ⟨n2, e2, _⟩ := Rd.int (cs := [c2]) (hr.field Tryz.underlying24 (i := 2) rfl) Tryz.underlying3
    obtain ⟨n3, e3, _⟩ := Rd.int (cs := [c3]) (hr.field Tryz.underlying24 (i := 3) rfl) Tryz.underlying3
    obtain ⟨p, zs, c, e4, h4⟩ := Rd.strs (cs := [c4]) (hr.field Tryz.underlying24 (i := 4) rfl) Tryz.underlying22 Tryz.underlying9 (by kernel_rfl)
    simp only [List.cons.injEq, and_true] at e0 e1 e2 e3 e4
    subst e0 e1 e2 e3 e4
    exact ⟨s0, s1, n2, n3, p, zs, c, rfl, h4⟩
theorem six {l : List Value} {a b c d e f : Value} (hl : l.length = 6) (h0 : (l.drop 0).take 1 = [a]) (h1 : (l.drop 1).take 1 = [b]) (h2 : (l.drop 2).take 1 = [c]) (h3 : (l.drop 3).take 1 = [d]) (h4 : (l.drop 4).take 1 = [e]) (h5 : (l.drop 5).take 1 = [f]) : l = [a, b, c, d, e, f] := by
  match l, hl with
  | [u0, u1, u2, u3, u4, u5], _ => simp at h0 h1 h2 h3 h4 h5; simp [h0, h1, h2, h3, h4, h5]
set_option maxRecDepth 100000 in
theorem open_I (hv : Value.okWide Tryz.prog W .any base 70 v) (h : DataW.Trod enc Tryz.prog W 0 (fun _ => true) true 70 v d ps) :
    ∃ (x : It) (q : Option Addr) (c : Nat), v = .agg (x.cells q c) ∧ x.gs.length ≤ c ∧ StrP W q x.gs ∧ (∀ z ∈ x.gs, z.size ≤ 9223372036854775807) ∧ (-9223372036854775808 ≤ x.ar ∧ x.ar ≤ 9223372036854775807) := by
  obtain ⟨cs, rfl, hsz⟩ := okWide_struct Tryz.underlying70 hv
  have hr := Rd.of h
  rw [cellsI] at hsz
  obtain ⟨l⟩ := cs
  have hl : l.length = 38 := hsz
  have hr : Rd enc Tryz.prog W 70 l := hr
  obtain ⟨f, e0⟩ := Rd.arr (cs := (l.drop 0).take 32) (hr.field Tryz.underlying70 (i := 0) rfl) Tryz.underlying42 Tryz.underlying5 (by kernel_rfl) (by kernel_rfl)
  obtain ⟨q, zs, c, e1, g1, g2, g3⟩ := Rd.strs (cs := (l.drop 32).take 1) (hr.field Tryz.underlying70 (i := 1) rfl) Tryz.underlying22 Tryz.underlying9 (by kernel_rfl)
  obtain ⟨s2, e2, _⟩ := Rd.str (cs := (l.drop 33).take 1) (hr.field Tryz.underlying70 (i := 2) rfl) Tryz.underlying9
  obtain ⟨n3, e3, _⟩ := Rd.int (cs := (l.drop 34).take 1) (hr.field Tryz.underlying70 (i := 3) rfl) Tryz.underlying3
  obtain ⟨b4, e4⟩ := Rd.bool (cs := (l.drop 35).take 1) (hr.field Tryz.underlying70 (i := 4) rfl) Tryz.underlying4
  obtain ⟨s5, e5, _⟩ := Rd.str (cs := (l.drop 36).take 1) (hr.field Tryz.underlying70 (i := 5) rfl) Tryz.underlying9
  obtain ⟨n6, e6, w6⟩ := Rd.int (cs := (l.drop 37).take 1) (hr.field Tryz.underlying70 (i := 6) rfl) Tryz.underlying3
  have hd : ∀ k, l.drop (32 + k) = (l.drop 32).drop k := fun k => by rw [List.drop_drop]
  have e7 := six (l := l.drop 32) (by simp [hl]) e1 (by rw [← hd]; exact e2) (by rw [← hd]; exact e3) (by rw [← hd]; exact e4) (by rw [← hd]; exact e5) (by rw [← hd]; exact e6)
  have hl2 : l = arrI .u8 f 32 0 ++ [Value.slice q zs.length c, Value.string s2, Value.int .i64 n3, Value.bool b4, Value.string s5, Value.int .i64 n6] := by
    rw [← List.take_append_drop 32 l, e7]
    congr 1
  refine ⟨⟨f, zs, s2, n3, b4, s5, n6⟩, q, c, by rw [hl2]; rfl, g1, g2, g3, ?_⟩
  have : IntKind.i64.min ≤ n6 ∧ n6 ≤ IntKind.i64.max := by simpa [Lit.wf] using w6
  exact this
end
end Go.Proofs.YtcpjajjocmpkjaaGreatDoor

/- The reference's rules and items as arguments, with their sizes. No condition. -/
namespace Go.Proofs.YtcpjajjocmpkjaaGreatDoor
open Go.ChangeShapes Go.WideShapes Go.ChangeAt Go.RowKit Go.Deep
section
variable {H : Type} {enc : TypeId × Value → H} {W : World} {base : Nat} {v : Value}
set_option maxRecDepth 100000 in
theorem openw_R (hv : Value.okWide Tryz.prog W .any base 24 v) (hr : Rw enc Tryz.prog W 24 v.cells.toList) :
    ∃ (nb ps : ByteArray) (mb dl : Int) (p : Option Addr) (ds : List ByteArray) (c : Nat), v = .agg #[.string nb, .string ps, .int .i64 mb, .int .i64 dl, .slice p ds.length c] ∧ ds.length ≤ c ∧ StrP W p ds ∧ (∀ z ∈ ds, z.size ≤ 140737488351232) := by
  obtain ⟨cs, rfl, hsz⟩ := okWide_struct Tryz.underlying24 hv
  rw [cellsR] at hsz
  obtain ⟨l⟩ := cs
  match l, hsz with
  | [c0, c1, c2, c3, c4], _ =>
    have hr : Rw enc Tryz.prog W 24 [c0, c1, c2, c3, c4] := hr
    obtain ⟨s0, e0, _⟩ := Rw.str (cs := [c0]) (hr.field Tryz.underlying24 (i := 0) rfl) Tryz.underlying9
    obtain ⟨s1, e1, _⟩ := Rw.str (cs := [c1]) (hr.field Tryz.underlying24 (i := 1) rfl) Tryz.underlying9
    obtain ⟨n2, e2, _⟩ := Rw.int64 (cs := [c2]) (hr.field Tryz.underlying24 (i := 2) rfl) Tryz.underlying3
    obtain ⟨n3, e3, _⟩ := Rw.int64 (cs := [c3]) (hr.field Tryz.underlying24 (i := 3) rfl) Tryz.underlying3
    obtain ⟨p, zs, c, e4, h4, _, h5⟩ := Rw.strs (cs := [c4]) (hr.field Tryz.underlying24 (i := 4) rfl) Tryz.underlying22 Tryz.underlying9 (by kernel_rfl)
    simp only [List.cons.injEq, and_true] at e0 e1 e2 e3 e4
    subst e0 e1 e2 e3 e4
    exact ⟨s0, s1, n2, n3, p, zs, c, rfl, h4, h5⟩
set_option maxRecDepth 100000 in
/-- The cells of an item. -/
theorem rw_I {l : List Value} (hl : l.length = 38) (hr : Rw enc Tryz.prog W 70 l) :
    ∃ (x : It) (q : Option Addr) (c : Nat), l.toArray = x.cells q c ∧ x.gs.length ≤ c ∧ StrP W q x.gs ∧ (∀ z ∈ x.gs, z.size ≤ 140737488351232) ∧ (-9223372036854775808 ≤ x.ar ∧ x.ar ≤ 9223372036854775807) ∧ (∀ j, 0 ≤ x.id j ∧ x.id j ≤ 255) := by
  obtain ⟨f, e0, hf⟩ := Rw.bytes (cs := (l.drop 0).take 32) (hr.field Tryz.underlying70 (i := 0) rfl) Tryz.underlying42 Tryz.underlying5 (by kernel_rfl) (by kernel_rfl)
  obtain ⟨q, zs, c, e1, g1, _, g2, g3⟩ := Rw.strs (cs := (l.drop 32).take 1) (hr.field Tryz.underlying70 (i := 1) rfl) Tryz.underlying22 Tryz.underlying9 (by kernel_rfl)
  obtain ⟨s2, e2, _⟩ := Rw.str (cs := (l.drop 33).take 1) (hr.field Tryz.underlying70 (i := 2) rfl) Tryz.underlying9
  obtain ⟨n3, e3, _⟩ := Rw.int64 (cs := (l.drop 34).take 1) (hr.field Tryz.underlying70 (i := 3) rfl) Tryz.underlying3
  obtain ⟨b4, e4⟩ := Rw.bool (cs := (l.drop 35).take 1) (hr.field Tryz.underlying70 (i := 4) rfl) Tryz.underlying4
  obtain ⟨s5, e5, _⟩ := Rw.str (cs := (l.drop 36).take 1) (hr.field Tryz.underlying70 (i := 5) rfl) Tryz.underlying9
  obtain ⟨n6, e6, w6⟩ := Rw.int64 (cs := (l.drop 37).take 1) (hr.field Tryz.underlying70 (i := 6) rfl) Tryz.underlying3
  have hd : ∀ k, l.drop (32 + k) = (l.drop 32).drop k := fun k => by rw [List.drop_drop]
  have e7 := six (l := l.drop 32) (by simp [hl]) e1 (by rw [← hd]; exact e2) (by rw [← hd]; exact e3) (by rw [← hd]; exact e4) (by rw [← hd]; exact e5) (by rw [← hd]; exact e6)
  have hl2 : l = arrI .u8 f 32 0 ++ [Value.slice q zs.length c, Value.string s2, Value.int .i64 n3, Value.bool b4, Value.string s5, Value.int .i64 n6] := by
    rw [← List.take_append_drop 32 l, e7]
    congr 1
  exact ⟨⟨f, zs, s2, n3, b4, s5, n6⟩, q, c, by rw [hl2]; rfl, g1, g2, g3, w6, hf⟩
set_option maxRecDepth 100000 in
theorem openw_I (hv : Value.okWide Tryz.prog W .any base 70 v) (hr : Rw enc Tryz.prog W 70 v.cells.toList) :
    ∃ (x : It) (q : Option Addr) (c : Nat), v = .agg (x.cells q c) ∧ x.gs.length ≤ c ∧ StrP W q x.gs ∧ (∀ z ∈ x.gs, z.size ≤ 140737488351232) ∧ (-9223372036854775808 ≤ x.ar ∧ x.ar ≤ 9223372036854775807) ∧ (∀ j, 0 ≤ x.id j ∧ x.id j ≤ 255) := by
  obtain ⟨cs, rfl, hsz⟩ := okWide_struct Tryz.underlying70 hv
  rw [cellsI] at hsz
  obtain ⟨l⟩ := cs
  obtain ⟨x, q, c, h1, h2⟩ := rw_I (l := l) hsz hr
  exact ⟨x, q, c, by rw [← h1], h2⟩
end
end Go.Proofs.YtcpjajjocmpkjaaGreatDoor
