/- The contract of the law's own conversion items. -/
import Derived.Test.YtcpjajjocmpkjaaDoorZ11
import Derived.Test.YtcpjajjocmpkjaaDoorZ09
import Derived.Test.YtcpjajjocmpkjaaDoorZ10
import Derived.Test.YtcpjajjocmpkjaaDoorProg
import Derived.Test.YtcpjajjocmpkjaaDoorZ02
import Derived.Test.YtcpjajjocmpkjaaDoorZ04
import Derived.KernelRfl
import Derived.Test.YtcpjajjocmpkjaaDoorZ06
import Derived.SizedLaws
namespace Go.Proofs.YtcpjajjocmpkjaaDoor
open Go.RowKit

/-- One element is appended (its cells lie in a block). -/
theorem app2 {w : World} {base n2 n c L sz : Nat} {T T' : TypeId} {f : Nat × Nat} {p : Option Addr} {xs : List Value} {cs : Array Value} (ho : w.ownsRow base T L (.slice p n c) n xs) (hb : base ≤ w.heap.size) (hs : w.heap[n2]? = some (.cells cs T' f)) (hL : cs.size = L)
    (hv : ∀ u ∈ cs.toList, u.oneCell' = true) (h1 : n + 1 ≤ 9223372036854775807) (h2 : (n + 1) * sz ≤ 140737488355328) {X : Option Addr → Nat → World → Prop}
    (h : ∀ (p' : Option Addr) (c' : Nat) (w' : World), w'.ownsRow base T L (.slice p' (n + 1) c') (n + 1) (xs ++ cs.toList) → Kp (fun k => (Value.slice p n c).ownBlock = some k) w w' → X p' c' w') :
    ∃ (base : Nat) (xs news : List Value), w.ownsRow base T L (.slice p n c) n xs ∧ news.length = L ∧ SrcP w (some (Addr.mk n2 0 none)) news ∧ n + 1 ≤ 9223372036854775807 ∧ (n + 1) * sz ≤ 140737488355328 ∧ base ≤ w.heap.size ∧
      ∀ (p' : Option Addr) (c' : Nat) (w' : World), w'.ownsRow base T L (.slice p' (n + 1) c') (n + 1) (xs ++ news) → w.grownBy w' (Value.slice p n c).ownBlock → X p' c' w' :=
  ⟨base, xs, cs.toList, ho, by simpa using hL, src_block hs hv, h1, h2, hb, fun p' c' w' ho' hg => h p' c' w' ho' ((Kp.refl _ _).grown hg (fun k hk => .inr hk))⟩
theorem own_apart {w : World} {base base' : Nat} {e e' : TypeId} {s s' : Nat} {v v' : Value} {n n' : Nat} {xs xs' : List Value} (h : w.ownsRow base e s v n xs) (h' : w.ownsRow base' e' s' v' n' xs') (hne : e ≠ e') : ∀ k, v.ownBlock = some k → v'.ownBlock ≠ some k := fun k hk hk' => by
  obtain ⟨c, h1⟩ := own_type h hk
  obtain ⟨c', h2⟩ := own_type h' hk'
  rw [h1] at h2
  simp at h2
  exact hne h2.2
theorem itC_one (y : ItA) : ∀ u ∈ itC y, u.oneCell' = true := by
  intro u hu
  have hu : u ∈ arrI .u8 y.1.id 32 0 ++ [Value.slice y.2.1 y.1.gs.length y.2.2, Value.string y.1.d, Value.int .i64 y.1.by_, Value.bool y.1.ct, Value.string y.1.fr, Value.int .i64 y.1.ar] := hu
  rcases List.mem_append.1 hu with h | h
  · rw [arrI_idI] at h
    obtain ⟨x, _, rfl⟩ := List.mem_map.1 h
    rfl
  · simp at h
    rcases h with rfl | rfl | rfl | rfl | rfl | rfl <;> rfl
/-- Items that came in. -/
structure ArgI (w : World) (p : Option Addr) (n : Nat) (L : List ItA) : Prop where
  len : n = L.length
  at_ : ∀ (k : Nat) (y : ItA), L[k]? = some y → ∃ b o, p = some ⟨b, o, none⟩ ∧ AtL w b (o + k * 38) (itC y) ∧ StrP w y.2.1 y.1.gs ∧ y.1.gs.length ≤ y.2.2
theorem AtL.k0 {w w' : World} {b o : Nat} {cs : List Value} (h : AtL w b o cs) (hk : K0 w w') : AtL w' b o cs := by
  have key : ∀ (cs : List Value) (o : Nat), At w b o cs → At w' b o cs := by
    intro cs
    induction cs with
    | nil => intro o _; trivial
    | cons v r ih =>
      intro o h
      cases r with
      | nil => exact hk.cell' h (fun h => h)
      | cons u r => exact ⟨hk.cell' h.1 (fun h => h), ih (o + 1) h.2⟩
  exact ⟨key cs o h.h⟩
def cutA (y : ItA) : It := y.1.cut

set_option maxRecDepth 100000 in
set_option maxHeartbeats 2000000 in
theorem items_any' (p : Option Addr) (n c : Nat) (L : List ItA) (w : World) (hA : ArgI w p n L) :
    Calls Tryd.prog 26 #[.slice p n c] w fun e w' => ∃ (p1 p2 : Option Addr) (c1 c2 : Nat) (L1 L2 : List ItA), e = .returned (.tuple #[.slice p1 (min n 20) c1, .slice p2 (min n 20) c2]) ∧
      ItR 39 w.heap.size w' p1 (min n 20) c1 L1 ∧ ItR 27 w.heap.size w' p2 (min n 20) c2 L2 ∧ L1.map (·.1) = (L.take 20).map (·.1.cut) ∧ L2.map (·.1) = (L.take 20).map (·.1.cut) ∧ K0 w w' := by
  refine vc_litems p n c w _ ?_
  have hLn := hA.len
  refine ⟨fun vs w' => ∃ (k : Nat) (p2 p1 : Option Addr) (c2 c1 : Nat) (L1 L2 : List ItA), vs = [.int .i64 (k : Int), .slice p2 k c2, .slice p1 k c1] ∧ k ≤ min n 20 ∧ ItR 39 w.heap.size w' p1 k c1 L1 ∧ ItR 27 w.heap.size w' p2 k c2 L2 ∧ L1.map (·.1) = (L.take k).map (·.1.cut) ∧ L2.map (·.1) = (L.take k).map (·.1.cut) ∧ K0 w w',
    fun vs _ => (match vs with | .int _ x :: _ => min n 20 - x.toNat | _ => 0), ⟨0, none, none, 0, 0, [], [], rfl, by omega, ⟨rfl, World.ownsRow_nil _ _ _ _, fun y hy => by cases hy⟩, ⟨rfl, World.ownsRow_nil _ _ _ _, fun y hy => by cases hy⟩, rfl, rfl, .refl _ _⟩, ?_⟩
  rintro i p2 n2 c2 p1 n1 c1 w1 ⟨k, p2', p1', c2', c1', L1, L2, hv, hk, hI1, hI2, hm1, hm2, k1⟩
  simp only [List.cons.injEq, Value.int.injEq, Value.slice.injEq, true_and, and_true] at hv
  obtain ⟨rfl, ⟨rfl, e3, rfl⟩, ⟨rfl, e6, rfl⟩⟩ := hv
  have e3 := e3.symm
  subst e3
  have e6 := e6.symm
  subst e6
  refine bsp_intro (fun hlt => ?_) (fun hge => ?_)
  · have hlt : k < min n 20 := by simp at hlt; omega
    obtain ⟨y, hy⟩ : ∃ y, L[k]? = some y := ⟨_, List.getElem?_eq_getElem (by omega)⟩
    have htk : (L.take (k + 1)).map (·.1.cut) = (L.take k).map (·.1.cut) ++ [y.1.cut] := by rw [List.take_add_one, hy, List.map_append]; rfl
    obtain ⟨b, o, rfl, hat, hgs, hgc⟩ := hA.at_ k y hy
    show (0 ≤ (k : Int) ∧ (k : Int) < (n : Int)) ∧ _
    rw [Int.toNat_natCast]
    refine ⟨by omega, y.1.id, y.2.1, y.1.gs.length, y.2.2, y.1.d, y.1.by_, y.1.ct, y.1.fr, y.1.ar, hat.k0 k1, ⟨(item_any y.1 y.2.1 y.2.2 w1 (hgs.kp k1 (fun _ _ _ h => h)) hgc).mono fun e w2 he => ?_⟩⟩
    obtain ⟨q1, q2, d1, d2, he, hr1, hr2, hk2⟩ := he
    refine ⟨_, _, _, _, _, _, _, _, _, _, _, _, _, _, _, _, _, _, he, fun n4 w3 hn3 n5 w4 hn4 => ?_⟩
    have ga : w2.heap.size ≤ n4 := hn3.ge
    have gb : n4 < n5 := by have := hn3.size; have := hn4.ge; omega
    have b4a := (hn4.kp (fun _ => False)).blk hn3.block (fun h => h)
    refine ⟨WrL_block b4a (by simp), fun w5 hp5 => ?_⟩
    have b4b : w5.heap[n4]? = some (.cells (y.1.cut.cells q1 d1) 39 (0, 0)) := hp5.full b4a rfl
    have b5b := hp5.kp.blk hn4.block (fun e => by omega)
    refine ⟨WrL_block b5b (by simp), fun w6 hp6 => ?_⟩
    have b46 := hp6.kp.blk b4b (fun e => by omega)
    have b56 : w6.heap[n5]? = some (.cells (y.1.cut.cells q2 d2) 27 (0, 0)) := hp6.full b5b rfl
    have k26 : K0 w2 w6 := (((hn3.kp (fun _ => False)).trans (hn4.kp _)).fresh hp5.kp (fun i hi e => by omega)).fresh hp6.kp (fun i hi e => by omega)
    clear hn3 hn4 b4a hp5 b4b b5b hp6
    have k16 : K0 w1 w6.drew := (hk2.trans k26).drew
    have hI1' := hI1.kp k16
    have hI2' := hI2.kp k16
    have hb46 : w6.drew.heap[n4]? = some (.cells (y.1.cut.cells q1 d1) 39 (0, 0)) := blk_drew b46
    have hb56 : w6.drew.heap[n5]? = some (.cells (y.1.cut.cells q2 d2) 27 (0, 0)) := blk_drew b56
    have hr1' : w6.drew.ownsRow w.heap.size 9 1 (.slice q1 y.1.cut.gs.length d1) y.1.cut.gs.length (y.1.cut.gs.map Value.string) := own_base (owns_kp hr1 k26.drew (fun _ _ h => h)) k1.size
    have hr2' : w6.drew.ownsRow w.heap.size 9 1 (.slice q2 y.1.cut.gs.length d2) y.1.cut.gs.length (y.1.cut.gs.map Value.string) := own_base (owns_kp hr2 k26.drew (fun _ _ h => h)) k1.size
    have kw6 : K0 w w6.drew := k1.trans k16
    have l1 : ∀ i, (Value.slice p1 k c1).ownBlock = some i → w.heap.size ≤ i ∧ i < w2.heap.size := fun i hi => ⟨own_ge hI1.row hi, Nat.lt_of_lt_of_le (own_lt hI1.row hi) hk2.size⟩
    have l2 : ∀ i, (Value.slice p2 k c2).ownBlock = some i → w.heap.size ≤ i ∧ i < w2.heap.size := fun i hi => ⟨own_ge hI2.row hi, Nat.lt_of_lt_of_le (own_lt hI2.row hi) hk2.size⟩
    let y1 : ItA := (y.1.cut, q1, d1)
    let y2 : ItA := (y.1.cut, q2, d2)
    have f1 : IntKind.i64.wrap ((k : Int) + 1) = ((k + 1 : Nat) : Int) := by rw [wr64 (by omega) (by omega)]; omega
    rw [f1]
    -- what is there behind both appends
    have fin : ∀ (wF : World) (pa pb : Option Addr) (ca cb : Nat), wF.ownsRow w.heap.size 39 38 (.slice pa (k + 1) ca) (k + 1) (L1.flatMap itC ++ itC y1) → wF.ownsRow w.heap.size 27 38 (.slice pb (k + 1) cb) (k + 1) (L2.flatMap itC ++ itC y2) →
        Kp (fun i => (Value.slice p1 k c1).ownBlock = some i ∨ (Value.slice p2 k c2).ownBlock = some i) w6.drew wF →
        (∃ (k' : Nat) (p2 p1 : Option Addr) (c2 c1 : Nat) (L1 L2 : List ItA), ([Value.int .i64 ((k + 1 : Nat) : Int), .slice pb (k + 1) cb, .slice pa (k + 1) ca] : List Value) = [.int .i64 (k' : Int), .slice p2 k' c2, .slice p1 k' c1] ∧ k' ≤ min n 20 ∧ ItR 39 w.heap.size wF p1 k' c1 L1 ∧ ItR 27 w.heap.size wF p2 k' c2 L2 ∧ L1.map (·.1) = (L.take k').map (·.1.cut) ∧ L2.map (·.1) = (L.take k').map (·.1.cut) ∧ K0 w wF) := by
      intro wF pa pb ca cb ha hb hkF
      have keep : ∀ {v : Value} {m : Nat} {xs : List Value}, w6.drew.ownsRow w.heap.size 9 1 v m xs → wF.ownsRow w.heap.size 9 1 v m xs := fun hx => owns_kp hx hkF (fun i hi e => by
        rcases e with e | e
        · exact own_apart hx hI1'.row (by decide) i hi e
        · exact own_apart hx hI2'.row (by decide) i hi e)
      refine ⟨k + 1, pb, pa, cb, ca, L1 ++ [y1], L2 ++ [y2], rfl, by omega, ⟨by rw [List.length_append, ← hI1.len]; rfl, by rw [List.flatMap_append]; simpa using ha, fun z hz => ?_⟩, ⟨by rw [List.length_append, ← hI2.len]; rfl, by rw [List.flatMap_append]; simpa using hb, fun z hz => ?_⟩, ?_, ?_, ?_⟩
      · rcases List.mem_append.1 hz with h | h
        · exact keep (hI1'.gs z h)
        · simp at h; subst h; exact keep hr1'
      · rcases List.mem_append.1 hz with h | h
        · exact keep (hI2'.gs z h)
        · simp at h; subst h; exact keep hr2'
      · rw [List.map_append, hm1, htk]; rfl
      · rw [List.map_append, hm2, htk]; rfl
      · exact kw6.fresh hkF (fun i hi e => by
          rcases e with e | e
          · have := l1 i e; omega
          · have := l2 i e; omega)
    let S : World → Prop := fun wz => wz.heap[n4]? = some (.cells (y.1.cut.cells q1 d1) 39 (0, 0)) ∧ wz.heap[n5]? = some (.cells (y.1.cut.cells q2 d2) 27 (0, 0))
    have hS : ∀ {M : Nat → Prop} {wa wz : World}, S wa → Kp M wa wz → (∀ i, M i → i < w2.heap.size) → S wz := fun h hk hM => ⟨hk.blk h.1 (fun e => by have := hM _ e; omega), hk.blk h.2 (fun e => by have := hM _ e; omega)⟩
    have hsz : w.heap.size ≤ w6.drew.heap.size := kw6.size
    refine ⟨S, ⟨hb46, hb56⟩, y.1.cut.id, q1, y.1.cut.gs.length, d1, y.1.cut.d, y.1.cut.by_, y.1.cut.ct, y.1.cut.fr, y.1.cut.ar, fun wz h => AtL_block h.1 rfl, y.1.cut.id, q2, y.1.cut.gs.length, d2, y.1.cut.d, y.1.cut.by_, y.1.cut.ct, y.1.cut.fr, y.1.cut.ar, fun wz h => AtL_block h.2 rfl, ?_, ?_⟩
    · intro n7 w7 hn7
      have k7 : K0 w6.drew w7 := hn7.kp _
      have S7 : S w7 := hS ⟨hb46, hb56⟩ k7 (fun i h => h.elim)
      refine ⟨S7, ?_, ?_⟩
      · refine app2 (owns_kp hI1'.row k7 (fun _ _ h => h)) (Nat.le_trans hsz k7.size) hn7.block rfl (itC_one y1) (by omega) (by omega) (fun pa ca w8 ho8 hk8 => ⟨hS S7 hk8 (fun i e => (l1 i e).2), fun n9 w9 hn9 => ?_⟩)
        have k9 : K0 w8 w9 := hn9.kp _
        have S8 := hS S7 hk8 (fun i e => (l1 i e).2)
        refine ⟨hS S8 k9 (fun i h => h.elim), ?_⟩
        have hrow2 : w9.ownsRow w.heap.size 27 38 (.slice p2 k c2) k (L2.flatMap itC) := owns_kp (owns_kp (owns_kp hI2'.row k7 (fun _ _ h => h)) hk8 (own_apart hI2'.row hI1'.row (by decide))) k9 (fun _ _ h => h)
        refine app2 hrow2 (by have := hk8.size; have := k9.size; have := k7.size; omega) hn9.block rfl (itC_one y2) (by omega) (by omega) (fun pb cb wa hoa hka => ⟨fin wa pa pb ca cb (owns_kp (owns_kp ho8 k9 (fun _ _ h => h)) hka (own_apart (owns_kp ho8 k9 (fun _ _ h => h)) hrow2 (by decide))) hoa ?_, by simp only [Int.toNat_natCast]; omega⟩)
        exact ((k7.mono (fun _ _ h => h.elim)).trans (hk8.mono (fun _ _ h => .inl h))).trans ((k9.mono (fun _ _ h => h.elim)).trans (hka.mono (fun _ _ h => .inr h)))
      · intro n9 w8 hn8
        have k8 : K0 w7 w8 := hn8.kp _
        have S8 := hS S7 k8 (fun i h => h.elim)
        refine ⟨S8, app2 (owns_kp (owns_kp hI1'.row k7 (fun _ _ h => h)) k8 (fun _ _ h => h)) (by have := k7.size; have := k8.size; omega) (k8.blk hn7.block (fun h => h)) rfl (itC_one y1) (by omega) (by omega) (fun pa ca w9 ho9 hk9 => ⟨hS S8 hk9 (fun i e => (l1 i e).2), ?_⟩)⟩
        have hrow2 : w9.ownsRow w.heap.size 27 38 (.slice p2 k c2) k (L2.flatMap itC) := owns_kp (owns_kp (owns_kp hI2'.row k7 (fun _ _ h => h)) k8 (fun _ _ h => h)) hk9 (own_apart hI2'.row hI1'.row (by decide))
        have hb9 := hk9.blk hn8.block (fun e => by have := l1 _ e; have := hn8.ge; have := k7.size; have := k26.size; have : w6.drew.heap.size = w6.heap.size := rfl; omega)
        refine app2 hrow2 (by have := hk9.size; have := k8.size; have := k7.size; omega) hb9 rfl (itC_one y2) (by omega) (by omega) (fun pb cb wa hoa hka => ⟨fin wa pa pb ca cb (owns_kp ho9 hka (own_apart ho9 hrow2 (by decide))) hoa ?_, by simp only [Int.toNat_natCast]; omega⟩)
        exact ((k7.mono (fun _ _ h => h.elim)).trans (k8.mono (fun _ _ h => h.elim))).trans ((hk9.mono (fun _ _ h => .inl h)).trans (hka.mono (fun _ _ h => .inr h)))
    · intro n7 w7 hn7
      have k7 : K0 w6.drew w7 := hn7.kp _
      have S7 : S w7 := hS ⟨hb46, hb56⟩ k7 (fun i h => h.elim)
      refine ⟨S7, fun n9 w8 hn8 => ?_⟩
      have k8 : K0 w7 w8 := hn8.kp _
      have S8 := hS S7 k8 (fun i h => h.elim)
      refine ⟨S8, app2 (owns_kp (owns_kp hI1'.row k7 (fun _ _ h => h)) k8 (fun _ _ h => h)) (by have := k7.size; have := k8.size; omega) hn8.block rfl (itC_one y1) (by omega) (by omega) (fun pa ca w9 ho9 hk9 => ⟨hS S8 hk9 (fun i e => (l1 i e).2), ?_⟩)⟩
      have hrow2 : w9.ownsRow w.heap.size 27 38 (.slice p2 k c2) k (L2.flatMap itC) := owns_kp (owns_kp (owns_kp hI2'.row k7 (fun _ _ h => h)) k8 (fun _ _ h => h)) hk9 (own_apart hI2'.row hI1'.row (by decide))
      have hb9 := hk9.blk (k8.blk hn7.block (fun h => h)) (fun e => by have := l1 _ e; have := hn7.ge; have := k26.size; have : w6.drew.heap.size = w6.heap.size := rfl; omega)
      refine app2 hrow2 (by have := hk9.size; have := k8.size; have := k7.size; omega) hb9 rfl (itC_one y2) (by omega) (by omega) (fun pb cb wa hoa hka => ⟨fin wa pa pb ca cb (owns_kp ho9 hka (own_apart ho9 hrow2 (by decide))) hoa ?_, by simp only [Int.toNat_natCast]; omega⟩)
      exact ((k7.mono (fun _ _ h => h.elim)).trans (k8.mono (fun _ _ h => h.elim))).trans ((hk9.mono (fun _ _ h => .inl h)).trans (hka.mono (fun _ _ h => .inr h)))
  · have hkk : k = min n 20 := by simp at hge; omega
    have ht : L.take k = L.take 20 := by
      rcases Nat.le_total L.length 20 with h | h
      · rw [List.take_of_length_le (by omega), List.take_of_length_le h]
      · rw [show k = 20 by omega]
    rw [ht] at hm1 hm2
    rw [← hkk]
    exact ⟨p1, p2, c1, c2, L1, L2, rfl, hI1, hI2, hm1, hm2, k1⟩

end Go.Proofs.YtcpjajjocmpkjaaDoor

/- The contracts of the reference's has, Check, Reason and Due: they agree with the program's plain functions. Names have at most 2^47 bytes. -/
namespace Go.Proofs.YtcpjajjocmpkjaaDoor
open Go.RowKit

theorem toList_beq (a b : ByteArray) : (a.toList == b.toList) = decide (a = b) := by
  rw [ByteArray.toList_eq, ByteArray.toList_eq, Bool.eq_iff_iff]
  simp only [beq_iff_eq, decide_eq_true_eq]
  constructor
  · intro h
    cases a; cases b
    congr 1
    exact Array.toList_inj.1 h
  · rintro rfl; rfl
theorem containsS_snoc (zs : List ByteArray) (z s : ByteArray) : Lib.containsS (zs ++ [z]) s = (Lib.containsS zs s || decide (z = s)) := by
  rw [Bool.eq_iff_iff, Bool.or_eq_true, Lib.containsS_iff, Lib.containsS_iff, decide_eq_true_eq, List.mem_append, List.mem_singleton]
  constructor
  · rintro (h | h)
    · exact .inl h
    · exact .inr h.symm
  · rintro (h | h)
    · exact .inl h
    · exact .inr h.symm
theorem has_any (p : Option Addr) (c : Nat) (zs : List ByteArray) (n : Nat) (s : ByteArray) (w : World) (hz : StrP w p zs) (hn : n ≤ zs.length) (hl : zs.length ≤ 9223372036854775807) :
    Calls Tryd.prog 35 #[.slice p n c, .string s] w fun e w' => e = .returned (.bool (Lib.containsS (zs.take n) s)) ∧ w' = w := by
  refine vc_has p n c s w _ ?_
  refine count1 n (by omega) (fun k w' => Lib.containsS (zs.take k) s = false ∧ w' = w) ⟨?_, rfl⟩ ?_
  · cases h : Lib.containsS (zs.take 0) s with
    | false => rfl
    | true => rw [Lib.containsS_iff] at h; simp at h
  rintro I m k w' hk ⟨hno, rfl⟩ next
  refine bsp_intro (fun hlt => ?_) (fun hge => ?_)
  · have hlt : k < n := by simpa using hlt
    obtain ⟨z, hzk⟩ : ∃ z, zs[k]? = some z := ⟨_, List.getElem?_eq_getElem (by omega)⟩
    have htk : zs.take (k + 1) = zs.take k ++ [z] := by rw [List.take_add_one, hzk]; rfl
    obtain ⟨b, o, rfl, hc⟩ := hz k z hzk
    show (0 ≤ (k : Int) ∧ (k : Int) < (n : Int)) ∧ _
    rw [Int.toNat_natCast]
    refine ⟨by omega, z, hc, ?_⟩
    rw [toList_beq]
    refine bsp_intro (fun he => ⟨?_, rfl⟩) (fun he => next hlt w' ⟨?_, rfl⟩)
    · have he : z = s := by simpa using he
      have : Lib.containsS (zs.take n) s = true := by
        rw [Lib.containsS_iff, ← he]
        exact List.mem_of_getElem? (i := k) (by rw [List.getElem?_take, if_pos hlt]; exact hzk)
      rw [this]
    · rw [htk, containsS_snoc, hno, he]; rfl
  · have : k = n := by simp at hge; omega
    subst this
    exact ⟨by rw [hno], rfl⟩

set_option maxHeartbeats 1000000 in
theorem rcheck_any (nb ps : ByteArray) (mb dl : Int) (p : Option Addr) (c : Nat) (ds : List ByteArray) (w : World) (hps : ps.size ≤ 1073741824) (hds : StrP w p ds) (hc : ds.length ≤ c) (hl : ds.length ≤ 1073741824) (hz : ∀ z ∈ ds, z.size ≤ 9223372036854775807) :
    Calls Tryd.prog 13 #[.agg #[.string nb, .string ps, .int .i64 mb, .int .i64 dl, .slice p ds.length c]] w fun e w' => e = .returned (.int .i64 (chkS nb ps mb dl ds)) ∧ K0 w w' := by
  refine vc_rcheck nb ps mb dl p ds.length c w _ ?_
  intro n w1 hn
  have hk1 : K0 w w1 := hn.kp _
  refine ⟨nb, cell_at hn.block rfl, ⟨(refSite_any nb w1).mono fun e w2 ⟨he, hw⟩ => ⟨_, _, he, ?_⟩⟩⟩
  subst hw
  generalize hsi : (siteS nb).2 = si
  generalize (siteS nb).1 = si1
  refine bsp_intro (fun h => ⟨?_, hk1⟩) (fun h => ?_)
  · have h : si ≠ 0 := by simpa using h
    simp [chkS, hsi, h]
  have h : si = 0 := by simpa using h
  refine ⟨ps, cell_at hn.block rfl, ⟨(rparseList_any ps w2 hps).mono fun e w3 ⟨hk3, he⟩ => ?_⟩⟩
  have hk13 : K0 w w3 := hk1.trans hk3
  have hb3 := hk3.blk hn.block (fun h => h)
  cases hL : listR ps with
  | inr oe =>
    obtain ⟨o, er⟩ := oe
    rw [hL] at he
    refine ⟨_, _, _, o, er, he, ?_⟩
    have := listR_err hL
    refine bsp_intro (fun _ => ⟨?_, hk13⟩) (fun h => absurd h (by simpa using this))
    simp [chkS, hsi, h, hL]
  | inl es =>
    rw [hL] at he
    obtain ⟨lp, ln, lc, LL, he, _⟩ := he
    refine ⟨_, _, _, _, _, he, ?_⟩
    refine bsp_intro (fun h => absurd h (by decide)) (fun _ => ?_)
    have c2 : w3.cell? ⟨n, 0 + 2, none⟩ = some (.int .i64 mb) := cell_at hb3 rfl
    have c3 : w3.cell? ⟨n, 0 + 3, none⟩ = some (.int .i64 dl) := cell_at hb3 rfl
    have c4 : w3.cell? ⟨n, 0 + 4, none⟩ = some (.slice p ds.length c) := cell_at hb3 rfl
    refine ⟨mb, c2, mb, gimp_intro fun _ => c2, dl, gimp_intro fun _ => c3, dl, gimp_intro fun _ => c3, ?_⟩
    refine bsp_intro (fun hr => ⟨?_, hk13⟩) (fun hr => ?_)
    · have hr : mb < 0 ∨ 65536 < mb ∨ dl < 0 ∨ 20160 < dl := by simp at hr; omega
      simp [chkS, hsi, h, hL, hr]
    have hr : ¬ (mb < 0 ∨ 65536 < mb ∨ dl < 0 ∨ 20160 < dl) := by simp at hr; omega
    refine ⟨p, ds.length, c, c4, ?_⟩
    refine bsp_intro (fun h8 => ⟨?_, hk13⟩) (fun h8 => ?_)
    · have h8 : 8 < ds.length := by simp at h8; omega
      simp [chkS, hsi, h, hL, hr, h8]
    have h8 : ¬ 8 < ds.length := by simp at h8; omega
    have hR : chkS nb ps mb dl ds = dstS [] ds := by simp [chkS, hsi, h, hL, hr, h8]
    rw [hR]
    refine count1 ds.length (by omega) (fun k w4 => dstS [] ds = dstS (ds.take k) (ds.drop k) ∧ K0 w3 w4) ⟨rfl, .refl _ _⟩ ?_
    intro I m k w4 hk ⟨hS, hk4⟩ next
    have c4' : ∀ wx, K0 w3 wx → wx.cell? ⟨n, 0 + 4, none⟩ = some (.slice p ds.length c) := fun wx hx => cell_at (hx.blk hb3 (fun h => h)) rfl
    refine ⟨p, ds.length, c, c4' w4 hk4, bsp_intro (fun hlt => ?_) (fun hge => ?_)⟩
    · have hlt : k < ds.length := by simpa using hlt
      obtain ⟨z, hzk⟩ : ∃ z, ds[k]? = some z := ⟨_, List.getElem?_eq_getElem hlt⟩
      have hdr : ds.drop k = z :: ds.drop (k + 1) := by
        rw [List.drop_eq_getElem_cons hlt]
        rw [List.getElem?_eq_getElem hlt] at hzk
        simp at hzk
        rw [hzk]
      have htk : ds.take (k + 1) = ds.take k ++ [z] := by rw [List.take_add_one, hzk]; rfl
      rw [hdr] at hS
      have hd4 := hds.kp (hk13.trans hk4) (fun _ _ _ h => h)
      obtain ⟨b1, o1, rfl, hcz⟩ := hd4 k z hzk
      refine ⟨_, ds.length, c, c4' w4 hk4, ?_⟩
      show (0 ≤ (k : Int) ∧ (k : Int) < (ds.length : Int)) ∧ _
      rw [Int.toNat_natCast]
      refine ⟨by omega, z, hcz, ⟨(word_any z (by have := hz z (List.mem_of_getElem? hzk); omega) w4).mono fun e w5 ⟨he, hw⟩ => ⟨_, he, ?_⟩⟩⟩
      subst hw
      refine bsp_intro (fun hd => ⟨?_, hk13.trans hk4⟩) (fun hd => ?_)
      · have hd : distB z = false := by simpa using hd
        rw [hS]; simp [dstS, hd]
      have hd : distB z = true := by simpa using hd
      have hk5 := hk4.drew
      refine ⟨some ⟨b1, o1, none⟩, ds.length, c, c4' _ hk5, ⟨by omega, by omega⟩, some ⟨b1, o1, none⟩, ds.length, c, c4' _ hk5, ?_⟩
      show (0 ≤ (k : Int) ∧ (k : Int) < (ds.length : Int)) ∧ _
      refine ⟨by omega, z, hcz, ?_⟩
      refine ⟨(has_any (some ⟨b1, o1, none⟩) c ds k z w5.drew hd4 (by omega) (by omega)).mono fun e w6 ⟨he, hw⟩ => ⟨_, he, ?_⟩⟩
      subst hw
      refine bsp_intro (fun hcn => ⟨?_, hk13.trans hk5⟩) (fun hcn => ?_)
      · rw [hS]; simp [dstS, hd, hcn]
      · refine next hlt _ ⟨?_, hk5⟩
        rw [hS, htk]; simp [dstS, hd, hcn]
    · have hge : ¬ k < ds.length := by simpa using hge
      obtain rfl : k = ds.length := by omega
      refine ⟨?_, hk13.trans hk4⟩
      rw [hS, List.drop_length]; rfl

theorem relEs_len {es : List Ent} {L : List RItA} (h : RelEnts es (L.map (·.1))) (h64 : es.length ≤ 64) (h80 : ∀ e ∈ es, e.els.length ≤ 80) : L.length ≤ 64 ∧ ∀ x ∈ L, x.1.rs.length ≤ 80 := by
  have hl := h.len
  rw [List.length_map] at hl
  refine ⟨by omega, fun x hx => ?_⟩
  obtain ⟨j, hj, rfl⟩ := List.getElem_of_mem hx
  have hj' : j < es.length := by omega
  have := (h.at_ j es[j] L[j].1 (List.getElem?_eq_getElem hj') (by simp [hj])).els.len
  rw [← this]
  exact h80 _ (List.getElem_mem hj')
set_option maxHeartbeats 1000000 in
theorem rreason_any (nb ps : ByteArray) (mb dl : Int) (p : Option Addr) (c : Nat) (ds : List ByteArray) (x : It) (q : Option Addr) (d : Nat) (es : List Ent) (w : World) (hps : ps.size ≤ 1073741824) (hL : listR ps = .inl es) (hds : StrP w p ds) (hl : ds.length ≤ 1073741824) (hg : StrP w q x.gs) (hgl : x.gs.length ≤ 1073741824) (hgz : ∀ z ∈ x.gs, z.size ≤ 140737488355328) :
    Calls Tryd.prog 15 #[.agg #[.string nb, .string ps, .int .i64 mb, .int .i64 dl, .slice p ds.length c], .agg (x.cells q d)] w fun e w' => e = .returned (.int .i64 (rsnS nb mb ds es x)) ∧ K0 w w' := by
  refine vc_rreason nb ps mb dl p ds.length c (x.cells q d) w _ ?_
  intro n w1 hn n1 w2 hn1
  have hb := (hn1.kp (fun _ => False)).blk hn.block (fun h => h)
  have hb1 := hn1.block
  have k2 : K0 w w2 := (hn.kp (fun _ => False)).trans (hn1.kp _)
  refine ⟨x.fr, cell_at hb1 rfl, nb, cell_at hb rfl, bsp_intro (fun h1 => ⟨?_, k2⟩) (fun h1 => ⟨x.ct, cell_at hb1 rfl, bsp_intro (fun hc => ⟨?_, k2⟩) (fun hc => ?_)⟩)⟩
  · unfold rsnS; rw [if_pos (show rsnB nb mb ds es x 1 = true from h1)]
  · unfold rsnS; rw [if_neg (by rw [show rsnB nb mb ds es x 1 = false from h1]; decide)]
    simp [rsnB, hc]
  have e1 : rsnS nb mb ds es x = if rsnB nb mb ds es x 2 = true then 2 else if rsnB nb mb ds es x 3 = true then 3 else if rsnB nb mb ds es x 4 = true then 4 else 0 := by
    unfold rsnS; rw [if_neg (by rw [show rsnB nb mb ds es x 1 = false from h1]; decide)]
  rw [e1]
  obtain ⟨h64, h80⟩ := listR_ok hL
  refine ⟨ps, cell_at hb rfl, ⟨(rparseList_any ps w2 hps).mono fun e w3 ⟨hk3, he⟩ => ?_⟩⟩
  rw [hL] at he
  obtain ⟨lp, ln, lc, LL, he, hRL, hrel⟩ := he
  obtain ⟨l64, l80⟩ := relEs_len hrel h64 h80
  have k3 : K0 w w3 := k2.trans hk3
  have hb3 := hk3.blk hb (fun h => h)
  have hb13 := hk3.blk hb1 (fun h => h)
  refine ⟨_, _, _, _, _, he, q, x.gs.length, d, cell_at hb13 rfl, ⟨(rselects_any hRL l64 l80 q d x.gs (hg.kp k3 (fun _ _ _ h => h)) hgl hgz).mono fun e w4 ⟨he, hk4⟩ => ⟨_, he, ?_⟩⟩⟩
  rw [← rel_sel hrel]
  have k4 : K0 w w4 := k3.trans hk4
  have hb4 := hk4.blk hb3 (fun h => h)
  have hb14 := hk4.blk hb13 (fun h => h)
  have e2 : rsnB nb mb ds es x 2 = !selB es x.gs := by simp [rsnB, hc]
  refine bsp_intro (fun h2 => ⟨?_, k4⟩) (fun h2 => ?_)
  · rw [if_pos (by rw [e2]; exact h2)]
  rw [if_neg (by rw [e2, h2]; decide)]
  have e3 : rsnB nb mb ds es x 3 = (mb != 0 && decide (mb < x.by_)) := by simp [rsnB, hc]
  refine ⟨mb, cell_at hb4 rfl, mb, gimp_intro fun _ => cell_at hb4 rfl, x.by_, gimp_intro fun _ => cell_at hb14 rfl, bsp_intro (fun h3 => ⟨?_, k4⟩) (fun h3 => ?_)⟩
  · rw [if_pos (by rw [e3]; exact h3)]
  rw [if_neg (by rw [e3, h3]; decide)]
  have e4 : rsnB nb mb ds es x 4 = (decide ((ds.length : Int) > 0) && !x.d.toList == [] && !Lib.containsS ds x.d) := by simp [rsnB, hc]
  refine ⟨p, ds.length, c, cell_at hb4 rfl, x.d, gimp_intro fun _ => cell_at hb14 rfl, p, ds.length, c, gimp_intro fun _ => cell_at hb4 rfl, x.d, gimp_intro fun _ => cell_at hb14 rfl, bsp_intro (fun h4 => ?_) (fun h4 => ⟨?_, k4⟩)⟩
  · refine ⟨(has_any p c ds ds.length x.d w4 (hds.kp k4 (fun _ _ _ h => h)) (Nat.le_refl _) (by omega)).mono fun e w5 ⟨he, hw⟩ => ⟨_, he, ?_⟩⟩
    subst hw
    rw [List.take_length]
    refine bsp_intro (fun h5 => ⟨?_, k4⟩) (fun h5 => ⟨?_, k4⟩)
    · rw [if_pos (by rw [e4, h4]; exact h5)]
    · rw [if_neg (by rw [e4, h4, h5]; decide)]
  · rw [if_neg (by rw [e4, h4]; simp)]
theorem rdue_any (nb ps : ByteArray) (mb dl : Int) (p : Option Addr) (n c : Nat) (x : It) (q : Option Addr) (d : Nat) (w : World) (hdl : 0 ≤ dl ∧ dl ≤ 20160) (har : -9223372036854775808 ≤ x.ar ∧ x.ar ≤ 9223372036854775807) :
    Calls Tryd.prog 18 #[.agg #[.string nb, .string ps, .int .i64 mb, .int .i64 dl, .slice p n c], .agg (x.cells q d)] w fun e w' => e = .returned (.int .i64 (dueS dl x.ar)) ∧ K0 w w' := by
  refine vc_rdue nb ps mb dl p n c (x.cells q d) w _ ?_
  intro n1 w1 hn n2 w2 hn1
  have hb := (hn1.kp (fun _ => False)).blk hn.block (fun h => h)
  have hb1 := hn1.block
  have k2 : K0 w w2 := (hn.kp (fun _ => False)).trans (hn1.kp _)
  refine ⟨x.ar, cell_at hb1 rfl, dl, cell_at hb rfl, ?_⟩
  rw [wr64 (x := 9223372036854775807 - dl) (by omega) (by omega)]
  refine bsp_intro (fun hd => ⟨?_, k2⟩) (fun hd => ⟨x.ar, cell_at hb1 rfl, dl, cell_at hb rfl, ?_, k2⟩)
  · have hd : 9223372036854775807 - dl < x.ar := by simpa using hd
    unfold dueS; rw [if_pos hd]
  · have hd : ¬ 9223372036854775807 - dl < x.ar := by simpa using hd
    rw [wr64 (by omega) (by omega)]; unfold dueS; rw [if_neg hd]

end Go.Proofs.YtcpjajjocmpkjaaDoor

/- The formulas of functions by the symbolic evaluator, and that each gives the call's contract. Written by a program (gen.py). No condition. -/
namespace Go.Proofs.YtcpjajjocmpkjaaDoor
set_option maxRecDepth 100000
set_option linter.unusedVariables false

def VC_qclone (q : Option Addr) (w : World) (R : Ending → World → Prop) : Prop :=
 bsp q.isNone (R (Ending.returned (Value.pointer none)) w)
 (nn true q fun (b o : Nat) =>
 ∃ (x : Int),
 ∃ (x_1 : Bool),
 ∃ (x_2 : Int),
 ∃ (x_3 : Int),
 AtL w b o [Value.int IntKind.i64 x, Value.bool x_1, Value.int IntKind.i64 x_2, Value.int IntKind.i64 x_3] ∧
 ∀ (n : Nat) (w1 : World),
 NewB w
 (Obj.cells #[Value.int IntKind.i64 0, Value.bool false, Value.int IntKind.i64 0, Value.int IntKind.i64 0] 93)
 n w1 →
 WrL w1 n 0 4 ∧
 ∀ (w1_1 : World),
 PutB w1 n 0 [Value.int IntKind.i64 x, Value.bool x_1, Value.int IntKind.i64 x_2, Value.int IntKind.i64 x_3]
 w1_1 →
 R (Ending.returned (Value.pointer (some (Addr.mk n 0 none)))) w1_1)
theorem vc_qclone (q : Option Addr) (w : World) (R : Ending → World → Prop) (h : VC_qclone q w R) : Calls Tryd.prog 28 ([Value.pointer
    q] : List Value).toArray w R := by
  have e : execR { P := Tryd.prog, loops := [], pur := pur1, tails := [], joins := [], boxes := [] } Tryd.f28.results.toList R (Tryd.f28.body.getD .skip) (initF [Value.pointer
    q] (Tryd.f28.ntmps - ([Value.pointer q] : List Value).length)) w = VC_qclone q w R := by kernel_rfl
  have hb : Tryd.f28.body = some (Tryd.f28.body.getD .skip) := by kernel_rfl
  exact calls_of_exec' (P := Tryd.prog) (fn := Tryd.f28) (c := Tryd.f28.body.getD .skip) (args := [Value.pointer
    q]) (w := w) (R := R) pur1_ok Tryd.func28 hb e h

def VC_takeNil (n : Int) (now : Int) (w : World) (R : Ending → World → Prop) : Prop :=
 R (Ending.returned (Value.int IntKind.i64 1)) w
theorem vc_takeNil (n : Int) (now : Int) (w : World) (R : Ending → World → Prop) (h : VC_takeNil n now w R) : Calls Tryd.prog 21 ([Value.pointer
    none,
  Value.int IntKind.i64 n, Value.int IntKind.i64 now] : List Value).toArray w R := by
  have e : execR { P := Tryd.prog, loops := [], pur := pur1, tails := [], joins := [], boxes := [] } Tryd.f21.results.toList R (Tryd.f21.body.getD .skip) (initF [Value.pointer
    none,
  Value.int IntKind.i64 n,
  Value.int IntKind.i64
    now] (Tryd.f21.ntmps - ([Value.pointer none, Value.int IntKind.i64 n,
  Value.int IntKind.i64 now] : List Value).length)) w = VC_takeNil n now w R := by kernel_rfl
  have hb : Tryd.f21.body = some (Tryd.f21.body.getD .skip) := by kernel_rfl
  exact calls_of_exec' (P := Tryd.prog) (fn := Tryd.f21) (c := Tryd.f21.body.getD .skip) (args := [Value.pointer none,
  Value.int IntKind.i64 n, Value.int IntKind.i64 now]) (w := w) (R := R) pur1_ok Tryd.func21 hb e h

def VC_leftNil (now : Int) (w : World) (R : Ending → World → Prop) : Prop :=
 R (Ending.returned (Value.int IntKind.i64 0)) w
theorem vc_leftNil (now : Int) (w : World) (R : Ending → World → Prop) (h : VC_leftNil now w R) : Calls Tryd.prog 22 ([Value.pointer
    none,
  Value.int IntKind.i64 now] : List Value).toArray w R := by
  have e : execR { P := Tryd.prog, loops := [], pur := pur1, tails := [], joins := [], boxes := [] } Tryd.f22.results.toList R (Tryd.f22.body.getD .skip) (initF [Value.pointer
    none,
  Value.int IntKind.i64
    now] (Tryd.f22.ntmps - ([Value.pointer none,
  Value.int IntKind.i64 now] : List Value).length)) w = VC_leftNil now w R := by kernel_rfl
  have hb : Tryd.f22.body = some (Tryd.f22.body.getD .skip) := by kernel_rfl
  exact calls_of_exec' (P := Tryd.prog) (fn := Tryd.f22) (c := Tryd.f22.body.getD .skip) (args := [Value.pointer none,
  Value.int IntKind.i64 now]) (w := w) (R := R) pur1_ok Tryd.func22 hb e h

def VC_checks (nb : ByteArray) (ps : ByteArray) (mb : Int) (dl : Int) (p : Option Addr) (n : Nat) (c : Nat) (w : World) (R : Ending → World → Prop) : Prop :=
 ∀ (n_1 : Nat) (w1 : World),
 NewB w
 (Obj.cells #[Value.string nb, Value.string ps, Value.int IntKind.i64 mb, Value.int IntKind.i64 dl, Value.slice p n c]
 24)
 n_1 w1 →
 ∃ (x : ByteArray),
 ∃ (x_1 : ByteArray),
 ∃ (x_2 : Int),
 ∃ (x_3 : Int),
 ∃ (p : Option Addr),
 ∃ (n : Nat),
 ∃ (c : Nat),
 AtL w1 n_1 0
 [Value.string x, Value.string x_1, Value.int IntKind.i64 x_2, Value.int IntKind.i64 x_3, Value.slice p n c] ∧
 CallsS Tryd.prog 10
 #[Value.agg
 #[Value.string x, Value.string x_1, Value.int IntKind.i64 x_2, Value.int IntKind.i64 x_3,
 Value.slice p n c]]
 w1 fun (e : Ending) (w' : World) =>
 ∃ (x : ByteArray),
 ∃ (x_4 : ByteArray),
 ∃ (x_5 : Int),
 ∃ (x_6 : Int),
 ∃ (p : Option Addr),
 ∃ (n : Nat),
 ∃ (c : Nat),
 ∃ (x_7 : ByteArray),
 ∃ (x_8 : ByteArray),
 ∃ (x_9 : Int),
 ∃ (x_10 : Int),
 ∃ (p_1 : Option Addr),
 ∃ (n_2 : Nat),
 ∃ (c_1 : Nat),
 e =
 Ending.returned
 (Value.tuple
 #[Value.agg
 #[Value.string x, Value.string x_4, Value.int IntKind.i64 x_5, Value.int IntKind.i64 x_6,
 Value.slice p n c],
 Value.agg
 #[Value.string x_7, Value.string x_8, Value.int IntKind.i64 x_9,
 Value.int IntKind.i64 x_10, Value.slice p_1 n_2 c_1]]) ∧
 ∀ (n_3 : Nat) (w1 : World),
 NewB w'
 (Obj.cells
 #[Value.string (ByteArray.mk #[]), Value.string (ByteArray.mk #[]),
 Value.int IntKind.i64 0, Value.int IntKind.i64 0, Value.slice none 0 0]
 28)
 n_3 w1 →
 ∀ (n_4 : Nat) (w1_1 : World),
 NewB w1
 (Obj.cells
 #[Value.string (ByteArray.mk #[]), Value.string (ByteArray.mk #[]),
 Value.int IntKind.i64 0, Value.int IntKind.i64 0, Value.slice none 0 0]
 24)
 n_4 w1_1 →
 WrL w1_1 n_3 0 5 ∧
 ∀ (w1 : World),
 PutB w1_1 n_3 0
 [Value.string x, Value.string x_4, Value.int IntKind.i64 x_5,
 Value.int IntKind.i64 x_6, Value.slice p n c]
 w1 →
 WrL w1 n_4 0 5 ∧
 ∀ (w1_2 : World),
 PutB w1 n_4 0
 [Value.string x_7, Value.string x_8, Value.int IntKind.i64 x_9,
 Value.int IntKind.i64 x_10, Value.slice p_1 n_2 c_1]
 w1_2 →
 ∃ (x : ByteArray),
 ∃ (x_11 : ByteArray),
 ∃ (x_12 : Int),
 ∃ (x_13 : Int),
 ∃ (p : Option Addr),
 ∃ (n : Nat),
 ∃ (c : Nat),
 AtL w1_2 n_4 0
 [Value.string x, Value.string x_11, Value.int IntKind.i64 x_12,
 Value.int IntKind.i64 x_13, Value.slice p n c] ∧
 CallsS Tryd.prog 13
 #[Value.agg
 #[Value.string x, Value.string x_11, Value.int IntKind.i64 x_12,
 Value.int IntKind.i64 x_13, Value.slice p n c]]
 w1_2 fun (e : Ending) (w' : World) =>
 ∃ (x : Int),
 e = Ending.returned (Value.int IntKind.i64 x) ∧
 ∃ (x_14 : ByteArray),
 ∃ (x_15 : ByteArray),
 ∃ (x_16 : Int),
 ∃ (x_17 : Int),
 ∃ (p : Option Addr),
 ∃ (n : Nat),
 ∃ (c : Nat),
 AtL w' n_3 0
 [Value.string x_14, Value.string x_15,
 Value.int IntKind.i64 x_16, Value.int IntKind.i64 x_17,
 Value.slice p n c] ∧
 CallsS Tryd.prog 11
 #[Value.agg
 #[Value.string x_14, Value.string x_15,
 Value.int IntKind.i64 x_16, Value.int IntKind.i64 x_17,
 Value.slice p n c]]
 w' fun (e : Ending) (w' : World) =>
 ∃ (x_18 : Option Addr),
 ∃ (x_19 : Int),
 e =
 Ending.returned
 (Value.tuple
 #[Value.pointer x_18, Value.int IntKind.i64 x_19]) ∧
 ∃ (x_20 : ByteArray),
 ∃ (x_21 : ByteArray),
 ∃ (x_22 : Int),
 ∃ (x_23 : Int),
 ∃ (p : Option Addr),
 ∃ (n : Nat),
 ∃ (c : Nat),
 AtL w' n_3 0
 [Value.string x_20, Value.string x_21,
 Value.int IntKind.i64 x_22,
 Value.int IntKind.i64 x_23, Value.slice p n c] ∧
 CallsS Tryd.prog 24
 #[Value.agg
 #[Value.string x_20, Value.string x_21,
 Value.int IntKind.i64 x_22,
 Value.int IntKind.i64 x_23, Value.slice p n c]]
 w' fun (e : Ending) (w' : World) =>
 ∃ (x_24 : Int),
 e = Ending.returned (Value.int IntKind.i64 x_24) ∧
 bsp
 (x_24 != x || x_19 != x ||
 !x_18.isNone == (x != 0))
 (R (Ending.returned (Value.bool false)) w')
 (bsp x_18.isNone
 (CallsS Tryd.prog 12 #[] w'
 fun (e : Ending) (w' : World) =>
 ∃ (x : Bool),
 e = Ending.returned (Value.bool x) ∧
 R (Ending.returned (Value.bool x)) w')
 (CallsS Tryd.prog 25 #[Value.pointer x_18] w'
 fun (e : Ending) (w' : World) =>
 ∃ (x : ByteArray),
 ∃ (x_25 : ByteArray),
 ∃ (x_26 : Int),
 ∃ (x_27 : Int),
 ∃ (p : Option Addr),
 ∃ (n : Nat),
 ∃ (c : Nat),
 e =
 Ending.returned
 (Value.agg
 #[Value.string x, Value.string x_25,
 Value.int IntKind.i64 x_26,
 Value.int IntKind.i64 x_27,
 Value.slice p n c]) ∧
 ∀ (n_5 : Nat) (w1 : World),
 NewB w'
 (Obj.cells
 #[Value.string (ByteArray.mk #[]),
 Value.string (ByteArray.mk #[]),
 Value.int IntKind.i64 0,
 Value.int IntKind.i64 0,
 Value.slice none 0 0]
 28)
 n_5 w1 →
 WrL w1 n_5 0 5 ∧
 ∀ (w1_3 : World),
 PutB w1 n_5 0
 [Value.string x,
 Value.string x_25,
 Value.int IntKind.i64 x_26,
 Value.int IntKind.i64 x_27,
 Value.slice p n c]
 w1_3 →
 ∃ (p : Option Addr),
 ∃ (n : Nat),
 ∃ (c : Nat),
 w1_3.cell?
 (Addr.mk n_5 (0 + 4) none) =
 some (Value.slice p n c) ∧
 ∃ (p : Option Addr),
 ∃ (n_6 : Nat),
 ∃ (c : Nat),
 w1_3.cell?
 (Addr.mk n_4 (0 + 4)
 none) =
 some
 (Value.slice p n_6 c) ∧
 ∃ (x : ByteArray),
 gimp
 (!(↑n : Int) !=
 (↑n_6 : Int))
 (w1_3.cell?
 (Addr.mk n_5 0
 none) =
 some
 (Value.string x)) ∧
 ∃ (x_28 : ByteArray),
 gimp
 (!(↑n : Int) !=
 (↑n_6 : Int))
 (w1_3.cell?
 (Addr.mk n_4 0
 none) =
 some
 (Value.string
 x_28)) ∧
 ∃ (x_29 : ByteArray),
 gimp
 (!((↑n : Int) !=
 (↑n_6 : Int) ||
 !x.toList ==
 x_28.toList))
 (w1_3.cell?
 (Addr.mk n_5
 (0 + 1) none) =
 some
 (Value.string
 x_29)) ∧
 ∃ (x_30 :
 ByteArray),
 gimp
 (!((↑n : Int) !=
 (↑n_6 :
 Int) ||
 !x.toList ==
 x_28.toList))
 (w1_3.cell?
 (Addr.mk n_4
 (0 + 1)
 none) =
 some
 (Value.string
 x_30)) ∧
 ∃ (x_31 : Int),
 gimp
 (!((↑n :
 Int) !=
 (↑n_6 :
 Int) ||
 !x.toList ==
 x_28.toList ||
 !x_29.toList ==
 x_30.toList))
 (w1_3.cell?
 (Addr.mk n_5
 (0 + 2)
 none) =
 some
 (Value.int
 IntKind.i64
 x_31)) ∧
 ∃ (x_32 : Int),
 gimp
 (!((↑n :
 Int) !=
 (↑n_6 :
 Int) ||
 !x.toList ==
 x_28.toList ||
 !x_29.toList ==
 x_30.toList))
 (w1_3.cell?
 (Addr.mk
 n_4
 (0 + 2)
 none) =
 some
 (Value.int
 IntKind.i64
 x_32)) ∧
 ∃ (x_33 :
 Int),
 gimp
 (!((↑n :
 Int) !=
 (↑n_6 :
 Int) ||
 !x.toList ==
 x_28.toList ||
 !x_29.toList ==
 x_30.toList ||
 x_31 !=
 x_32))
 (w1_3.cell?
 (Addr.mk
 n_5
 (0 + 3)
 none) =
 some
 (Value.int
 IntKind.i64
 x_33)) ∧
 ∃ (x_34 :
 Int),
 gimp
 (!((↑n :
 Int) !=
 (↑n_6 :
 Int) ||
 !x.toList ==
 x_28.toList ||
 !x_29.toList ==
 x_30.toList ||
 x_31 !=
 x_32))
 (w1_3.cell?
 (Addr.mk
 n_4
 (0 +
 3)
 none) =
 some
 (Value.int
 IntKind.i64
 x_34)) ∧
 bsp
 ((↑n :
 Int) !=
 (↑n_6 :
 Int) ||
 !x.toList ==
 x_28.toList ||
 !x_29.toList ==
 x_30.toList ||
 x_31 !=
 x_32 ||
 x_33 !=
 x_34)
 (R
 (Ending.returned
 (Value.bool
 false))
 w1_3)
 (∃ (I :
 List
 Value →
 World →
 Prop),
 ∃ (m :
 List
 Value →
 World →
 Nat),
 I
 [Value.int
 IntKind.i64
 0]
 w1_3 ∧
 ∀
 (x :
 Int)
 (w' :
 World),
 I
 [Value.int
 IntKind.i64
 x]
 w' →
 ∃ (p
 :
 Option
 Addr),
 ∃
 (n
 :
 Nat),
 ∃
 (c
 :
 Nat),
 w'.cell?
 (Addr.mk
 n_5
 (0 +
 4)
 none) =
 some
 (Value.slice
 p
 n
 c) ∧
 bsp
 (decide
 (x <
 (↑n :
 Int)))
 (∃
 (p
 :
 Option
 Addr),
 ∃
 (n
 :
 Nat),
 ∃
 (c
 :
 Nat),
 w'.drew.cell?
 (Addr.mk
 n_5
 (0 +
 4)
 none) =
 some
 (Value.slice
 p
 n
 c) ∧
 nn
 true
 p
 fun
 (b
 o :
 Nat) =>
 (0 ≤
 x ∧
 x <
 (↑n :
 Int)) ∧
 ∃
 (x_35
 :
 ByteArray),
 w'.drew.cell?
 (Addr.mk
 b
 (o +
 x.toNat)
 none) =
 some
 (Value.string
 x_35) ∧
 ∃
 (p
 :
 Option
 Addr),
 ∃
 (n
 :
 Nat),
 ∃
 (c
 :
 Nat),
 w'.drew.cell?
 (Addr.mk
 n_4
 (0 +
 4)
 none) =
 some
 (Value.slice
 p
 n
 c) ∧
 nn
 true
 p
 fun
 (b
 o :
 Nat) =>
 (0 ≤
 x ∧
 x <
 (↑n :
 Int)) ∧
 ∃
 (x_36
 :
 ByteArray),
 w'.drew.cell?
 (Addr.mk
 b
 (o +
 x.toNat)
 none) =
 some
 (Value.string
 x_36) ∧
 bsp
 (!x_35.toList ==
 x_36.toList)
 (R
 (Ending.returned
 (Value.bool
 false))
 w'.drew)
 (∃
 (S
 :
 World →
 Prop),
 S
 w'.drew.drew ∧
 ∃
 (p
 :
 Option
 Addr),
 ∃
 (n
 :
 Nat),
 ∃
 (c
 :
 Nat),
 (∀
 (w' :
 World),
 S
 w' →
 w'.cell?
 (Addr.mk
 n_5
 (0 +
 4)
 none) =
 some
 (Value.slice
 p
 n
 c)) ∧
 ∃
 (p_2
 :
 Option
 Addr),
 ∃
 (n_7
 :
 Nat),
 ∃
 (c
 :
 Nat),
 (∀
 (w' :
 World),
 S
 w' →
 w'.cell?
 (Addr.mk
 n_3
 (0 +
 4)
 none) =
 some
 (Value.slice
 p_2
 n_7
 c)) ∧
 nn
 true
 p
 fun
 (b
 o :
 Nat) =>
 (0 ≤
 x ∧
 x <
 (↑n :
 Int)) ∧
 ((∃
 (u
 :
 Value),
 w'.drew.drew.cell?
 (Addr.mk
 b
 (o +
 x.toNat)
 none) =
 some
 u) ∧
 w'.drew.drew.frozen?
 (Addr.mk
 b
 (o +
 x.toNat)
 none) =
 false) ∧
 ∀
 (w1 :
 World),
 PutB
 w'.drew.drew
 b
 (o +
 x.toNat)
 [Value.string
 (ByteArray.mk
 #[99,
 104,
 97,
 110,
 103,
 101,
 100])]
 w1 →
 S
 w1 ∧
 nn
 true
 p_2
 fun
 (b
 o :
 Nat) =>
 (0 ≤
 x ∧
 x <
 (↑n_7 :
 Int)) ∧
 ((∃
 (u
 :
 Value),
 w1.cell?
 (Addr.mk
 b
 (o +
 x.toNat)
 none) =
 some
 u) ∧
 w1.frozen?
 (Addr.mk
 b
 (o +
 x.toNat)
 none) =
 false) ∧
 ∀
 (w1_4 :
 World),
 PutB
 w1
 b
 (o +
 x.toNat)
 [Value.string
 (ByteArray.mk
 #[99,
 104,
 97,
 110,
 103,
 101,
 100])]
 w1_4 →
 I
 [Value.int
 IntKind.i64
 (IntKind.i64.wrap
 (x +
 1))]
 w1_4 ∧
 m
 [Value.int
 IntKind.i64
 (IntKind.i64.wrap
 (x +
 1))]
 w1_4 <
 m
 [Value.int
 IntKind.i64
 x]
 w'))
 (CallsS
 Tryd.prog
 25
 #[Value.pointer
 x_18]
 w'
 fun
 (e :
 Ending)
 (w' :
 World) =>
 ∃
 (x
 :
 ByteArray),
 ∃
 (x_35
 :
 ByteArray),
 ∃
 (x_36
 :
 Int),
 ∃
 (x_37
 :
 Int),
 ∃
 (p
 :
 Option
 Addr),
 ∃
 (n
 :
 Nat),
 ∃
 (c
 :
 Nat),
 e =
 Ending.returned
 (Value.agg
 #[Value.string
 x,
 Value.string
 x_35,
 Value.int
 IntKind.i64
 x_36,
 Value.int
 IntKind.i64
 x_37,
 Value.slice
 p
 n
 c]) ∧
 ∀
 (n_7 :
 Nat)
 (w1 :
 World),
 NewB
 w'
 (Obj.cells
 #[Value.string
 (ByteArray.mk
 #[]),
 Value.string
 (ByteArray.mk
 #[]),
 Value.int
 IntKind.i64
 0,
 Value.int
 IntKind.i64
 0,
 Value.slice
 none
 0
 0]
 28)
 n_7
 w1 →
 WrL
 w1
 n_7
 0
 5 ∧
 ∀
 (w1_4 :
 World),
 PutB
 w1
 n_7
 0
 [Value.string
 x,
 Value.string
 x_35,
 Value.int
 IntKind.i64
 x_36,
 Value.int
 IntKind.i64
 x_37,
 Value.slice
 p
 n
 c]
 w1_4 →
 ∃
 (I
 :
 List
 Value →
 World →
 Prop),
 ∃
 (m
 :
 List
 Value →
 World →
 Nat),
 I
 [Value.int
 IntKind.i64
 0]
 w1_4 ∧
 ∀
 (x :
 Int)
 (w' :
 World),
 I
 [Value.int
 IntKind.i64
 x]
 w' →
 ∃
 (p
 :
 Option
 Addr),
 ∃
 (n
 :
 Nat),
 ∃
 (c
 :
 Nat),
 w'.cell?
 (Addr.mk
 n_7
 (0 +
 4)
 none) =
 some
 (Value.slice
 p
 n
 c) ∧
 bsp
 (decide
 (x <
 (↑n :
 Int)))
 (∃
 (p
 :
 Option
 Addr),
 ∃
 (n
 :
 Nat),
 ∃
 (c
 :
 Nat),
 w'.drew.cell?
 (Addr.mk
 n_7
 (0 +
 4)
 none) =
 some
 (Value.slice
 p
 n
 c) ∧
 nn
 true
 p
 fun
 (b
 o :
 Nat) =>
 (0 ≤
 x ∧
 x <
 (↑n :
 Int)) ∧
 ∃
 (x_38
 :
 ByteArray),
 w'.drew.cell?
 (Addr.mk
 b
 (o +
 x.toNat)
 none) =
 some
 (Value.string
 x_38) ∧
 ∃
 (p
 :
 Option
 Addr),
 ∃
 (n
 :
 Nat),
 ∃
 (c
 :
 Nat),
 w'.drew.cell?
 (Addr.mk
 n_4
 (0 +
 4)
 none) =
 some
 (Value.slice
 p
 n
 c) ∧
 nn
 true
 p
 fun
 (b
 o :
 Nat) =>
 (0 ≤
 x ∧
 x <
 (↑n :
 Int)) ∧
 ∃
 (x_39
 :
 ByteArray),
 w'.drew.cell?
 (Addr.mk
 b
 (o +
 x.toNat)
 none) =
 some
 (Value.string
 x_39) ∧
 bsp
 (!x_38.toList ==
 x_39.toList)
 (R
 (Ending.returned
 (Value.bool
 false))
 w'.drew)
 (I
 [Value.int
 IntKind.i64
 (IntKind.i64.wrap
 (x +
 1))]
 w'.drew ∧
 m
 [Value.int
 IntKind.i64
 (IntKind.i64.wrap
 (x +
 1))]
 w'.drew <
 m
 [Value.int
 IntKind.i64
 x]
 w'))
 (CallsS
 Tryd.prog
 12
 #[]
 w'
 fun
 (e :
 Ending)
 (w' :
 World) =>
 ∃
 (x
 :
 Bool),
 e =
 Ending.returned
 (Value.bool
 x) ∧
 R
 (Ending.returned
 (Value.bool
 x))
 w')))))
theorem vc_checks (nb : ByteArray) (ps : ByteArray) (mb : Int) (dl : Int) (p : Option Addr) (n : Nat) (c : Nat) (w : World) (R : Ending → World → Prop) (h : VC_checks nb ps mb dl p n c w R) : Calls Tryd.prog 7 ([Value.agg
    #[Value.string nb, Value.string ps, Value.int IntKind.i64 mb, Value.int IntKind.i64 dl,
      Value.slice p n c]] : List Value).toArray w R := by
  have e : execR { P := Tryd.prog, loops := [(12, [(9, Ck.int IntKind.i64)]), (19, [(11, Ck.int IntKind.i64)])], pur := pur1, tails := [(16, 7)], joins := [], boxes := [] } Tryd.f7.results.toList R (Tryd.f7.body.getD .skip) (initF [Value.agg
    #[Value.string nb, Value.string ps, Value.int IntKind.i64 mb, Value.int IntKind.i64 dl,
      Value.slice p n
        c]] (Tryd.f7.ntmps - ([Value.agg
    #[Value.string nb, Value.string ps, Value.int IntKind.i64 mb, Value.int IntKind.i64 dl,
      Value.slice p n c]] : List Value).length)) w = VC_checks nb ps mb dl p n c w R := by kernel_rfl
  have hb : Tryd.f7.body = some (Tryd.f7.body.getD .skip) := by kernel_rfl
  exact calls_of_exec' (P := Tryd.prog) (fn := Tryd.f7) (c := Tryd.f7.body.getD .skip) (args := [Value.agg
    #[Value.string nb, Value.string ps, Value.int IntKind.i64 mb, Value.int IntKind.i64 dl,
      Value.slice p n c]]) (w := w) (R := R) pur1_ok Tryd.func7 hb e h

def VC_reasons (nb : ByteArray) (ps : ByteArray) (mb : Int) (dl : Int) (p : Option Addr) (n : Nat) (c : Nat) (a : Array Value) (w : World) (R : Ending → World → Prop) : Prop :=
 ∀ (n_1 : Nat) (w1 : World),
 NewB w
 (Obj.cells #[Value.string nb, Value.string ps, Value.int IntKind.i64 mb, Value.int IntKind.i64 dl, Value.slice p n c]
 24)
 n_1 w1 →
 ∀ (n : Nat) (w1_1 : World),
 NewB w1 (Obj.cells a 27) n w1_1 →
 ∃ (x : ByteArray),
 ∃ (x_1 : ByteArray),
 ∃ (x_2 : Int),
 ∃ (x_3 : Int),
 ∃ (p : Option Addr),
 ∃ (n_2 : Nat),
 ∃ (c : Nat),
 AtL w1_1 n_1 0
 [Value.string x, Value.string x_1, Value.int IntKind.i64 x_2, Value.int IntKind.i64 x_3,
 Value.slice p n_2 c] ∧
 CallsS Tryd.prog 10
 #[Value.agg
 #[Value.string x, Value.string x_1, Value.int IntKind.i64 x_2, Value.int IntKind.i64 x_3,
 Value.slice p n_2 c]]
 w1_1 fun (e : Ending) (w' : World) =>
 ∃ (x : ByteArray),
 ∃ (x_4 : ByteArray),
 ∃ (x_5 : Int),
 ∃ (x_6 : Int),
 ∃ (p : Option Addr),
 ∃ (n_3 : Nat),
 ∃ (c : Nat),
 ∃ (x_7 : ByteArray),
 ∃ (x_8 : ByteArray),
 ∃ (x_9 : Int),
 ∃ (x_10 : Int),
 ∃ (p_1 : Option Addr),
 ∃ (n_4 : Nat),
 ∃ (c_1 : Nat),
 e =
 Ending.returned
 (Value.tuple
 #[Value.agg
 #[Value.string x, Value.string x_4, Value.int IntKind.i64 x_5,
 Value.int IntKind.i64 x_6, Value.slice p n_3 c],
 Value.agg
 #[Value.string x_7, Value.string x_8, Value.int IntKind.i64 x_9,
 Value.int IntKind.i64 x_10, Value.slice p_1 n_4 c_1]]) ∧
 ∀ (n_5 : Nat) (w1 : World),
 NewB w'
 (Obj.cells
 #[Value.string (ByteArray.mk #[]), Value.string (ByteArray.mk #[]),
 Value.int IntKind.i64 0, Value.int IntKind.i64 0, Value.slice none 0 0]
 28)
 n_5 w1 →
 ∀ (n_6 : Nat) (w1_2 : World),
 NewB w1
 (Obj.cells
 #[Value.string (ByteArray.mk #[]), Value.string (ByteArray.mk #[]),
 Value.int IntKind.i64 0, Value.int IntKind.i64 0, Value.slice none 0 0]
 24)
 n_6 w1_2 →
 WrL w1_2 n_5 0 5 ∧
 ∀ (w1 : World),
 PutB w1_2 n_5 0
 [Value.string x, Value.string x_4, Value.int IntKind.i64 x_5,
 Value.int IntKind.i64 x_6, Value.slice p n_3 c]
 w1 →
 WrL w1 n_6 0 5 ∧
 ∀ (w1_3 : World),
 PutB w1 n_6 0
 [Value.string x_7, Value.string x_8, Value.int IntKind.i64 x_9,
 Value.int IntKind.i64 x_10, Value.slice p_1 n_4 c_1]
 w1_3 →
 ∃ (x : ByteArray),
 ∃ (x_11 : ByteArray),
 ∃ (x_12 : Int),
 ∃ (x_13 : Int),
 ∃ (p : Option Addr),
 ∃ (n_7 : Nat),
 ∃ (c : Nat),
 AtL w1_3 n_5 0
 [Value.string x, Value.string x_11, Value.int IntKind.i64 x_12,
 Value.int IntKind.i64 x_13, Value.slice p n_7 c] ∧
 CallsS Tryd.prog 11
 #[Value.agg
 #[Value.string x, Value.string x_11, Value.int IntKind.i64 x_12,
 Value.int IntKind.i64 x_13, Value.slice p n_7 c]]
 w1_3 fun (e : Ending) (w' : World) =>
 ∃ (x : Option Addr),
 ∃ (x_14 : Int),
 e =
 Ending.returned
 (Value.tuple #[Value.pointer x, Value.int IntKind.i64 x_14]) ∧
 bsp (x_14 != 0 || x.isNone)
 (CallsS Tryd.prog 12 #[] w' fun (e : Ending) (w' : World) =>
 ∃ (x : Bool),
 e = Ending.returned (Value.bool x) ∧
 ∃ (x_15 : ByteArray),
 ∃ (x_16 : ByteArray),
 ∃ (x_17 : Int),
 ∃ (x_18 : Int),
 ∃ (p : Option Addr),
 ∃ (n : Nat),
 ∃ (c : Nat),
 gimp x
 (AtL w' n_6 0
 [Value.string x_15, Value.string x_16,
 Value.int IntKind.i64 x_17, Value.int IntKind.i64 x_18,
 Value.slice p n c]) ∧
 bsp x
 (CallsS Tryd.prog 13
 #[Value.agg
 #[Value.string x_15, Value.string x_16,
 Value.int IntKind.i64 x_17,
 Value.int IntKind.i64 x_18, Value.slice p n c]]
 w' fun (e : Ending) (w' : World) =>
 ∃ (x : Int),
 e = Ending.returned (Value.int IntKind.i64 x) ∧
 R (Ending.returned (Value.bool (true && x_14 == x)))
 w')
 (R (Ending.returned (Value.bool false)) w'))
 (∃ (f : Nat → Int),
 ∃ (p : Option Addr),
 ∃ (n_8 : Nat),
 ∃ (c : Nat),
 ∃ (x_15 : ByteArray),
 ∃ (x_16 : Int),
 ∃ (x_17 : Bool),
 ∃ (x_18 : ByteArray),
 ∃ (x_19 : Int),
 AtL w' n 0
 (arrI IntKind.u8 f 32 0 ++ [Value.slice p n_8 c, Value.string x_15,
 Value.int IntKind.i64 x_16, Value.bool x_17,
 Value.string x_18, Value.int IntKind.i64 x_19]) ∧
 CallsS Tryd.prog 14
 #[Value.agg
 (arrI IntKind.u8 f 32 0 ++ [Value.slice p n_8 c,
 Value.string x_15, Value.int IntKind.i64 x_16,
 Value.bool x_17, Value.string x_18,
 Value.int IntKind.i64 x_19]).toArray]
 w' fun (e : Ending) (w' : World) =>
 ∃ (f : Nat → Int),
 ∃ (p : Option Addr),
 ∃ (n : Nat),
 ∃ (c : Nat),
 ∃ (x_20 : ByteArray),
 ∃ (x_21 : Int),
 ∃ (x_22 : Bool),
 ∃ (x_23 : ByteArray),
 ∃ (x_24 : Int),
 ∃ (f_1 : Nat → Int),
 ∃ (p_2 : Option Addr),
 ∃ (n_9 : Nat),
 ∃ (c_2 : Nat),
 ∃ (x_25 : ByteArray),
 ∃ (x_26 : Int),
 ∃ (x_27 : Bool),
 ∃ (x_28 : ByteArray),
 ∃ (x_29 : Int),
 e =
 Ending.returned
 (Value.tuple
 #[Value.agg
 (arrI IntKind.u8 f 32 0 ++ [Value.slice p n c,
 Value.string x_20,
 Value.int IntKind.i64 x_21,
 Value.bool x_22,
 Value.string x_23,
 Value.int IntKind.i64 x_24]).toArray,
 Value.agg
 (arrI IntKind.u8 f_1 32 0 ++ [Value.slice p_2 n_9 c_2,
 Value.string x_25,
 Value.int IntKind.i64 x_26,
 Value.bool x_27,
 Value.string x_28,
 Value.int IntKind.i64 x_29]).toArray]) ∧
 ∀ (n_10 : Nat) (w1 : World),
 NewB w'
 (Obj.cells
 #[Value.int IntKind.u8 0,
 Value.int IntKind.u8 0,
 Value.int IntKind.u8 0,
 Value.int IntKind.u8 0,
 Value.int IntKind.u8 0,
 Value.int IntKind.u8 0,
 Value.int IntKind.u8 0,
 Value.int IntKind.u8 0,
 Value.int IntKind.u8 0,
 Value.int IntKind.u8 0,
 Value.int IntKind.u8 0,
 Value.int IntKind.u8 0,
 Value.int IntKind.u8 0,
 Value.int IntKind.u8 0,
 Value.int IntKind.u8 0,
 Value.int IntKind.u8 0,
 Value.int IntKind.u8 0,
 Value.int IntKind.u8 0,
 Value.int IntKind.u8 0,
 Value.int IntKind.u8 0,
 Value.int IntKind.u8 0,
 Value.int IntKind.u8 0,
 Value.int IntKind.u8 0,
 Value.int IntKind.u8 0,
 Value.int IntKind.u8 0,
 Value.int IntKind.u8 0,
 Value.int IntKind.u8 0,
 Value.int IntKind.u8 0,
 Value.int IntKind.u8 0,
 Value.int IntKind.u8 0,
 Value.int IntKind.u8 0,
 Value.int IntKind.u8 0,
 Value.slice none 0 0,
 Value.string (ByteArray.mk #[]),
 Value.int IntKind.i64 0,
 Value.bool false,
 Value.string (ByteArray.mk #[]),
 Value.int IntKind.i64 0]
 39)
 n_10 w1 →
 ∀ (n_11 : Nat) (w1_4 : World),
 NewB w1
 (Obj.cells
 #[Value.int IntKind.u8 0,
 Value.int IntKind.u8 0,
 Value.int IntKind.u8 0,
 Value.int IntKind.u8 0,
 Value.int IntKind.u8 0,
 Value.int IntKind.u8 0,
 Value.int IntKind.u8 0,
 Value.int IntKind.u8 0,
 Value.int IntKind.u8 0,
 Value.int IntKind.u8 0,
 Value.int IntKind.u8 0,
 Value.int IntKind.u8 0,
 Value.int IntKind.u8 0,
 Value.int IntKind.u8 0,
 Value.int IntKind.u8 0,
 Value.int IntKind.u8 0,
 Value.int IntKind.u8 0,
 Value.int IntKind.u8 0,
 Value.int IntKind.u8 0,
 Value.int IntKind.u8 0,
 Value.int IntKind.u8 0,
 Value.int IntKind.u8 0,
 Value.int IntKind.u8 0,
 Value.int IntKind.u8 0,
 Value.int IntKind.u8 0,
 Value.int IntKind.u8 0,
 Value.int IntKind.u8 0,
 Value.int IntKind.u8 0,
 Value.int IntKind.u8 0,
 Value.int IntKind.u8 0,
 Value.int IntKind.u8 0,
 Value.int IntKind.u8 0,
 Value.slice none 0 0,
 Value.string (ByteArray.mk #[]),
 Value.int IntKind.i64 0,
 Value.bool false,
 Value.string (ByteArray.mk #[]),
 Value.int IntKind.i64 0]
 27)
 n_11 w1_4 →
 WrL w1_4 n_10 0 38 ∧
 ∀ (w1 : World),
 PutB w1_4 n_10 0
 (arrI IntKind.u8 f 32 0 ++ [Value.slice p n c,
 Value.string x_20,
 Value.int IntKind.i64 x_21,
 Value.bool x_22,
 Value.string x_23,
 Value.int IntKind.i64 x_24])
 w1 →
 WrL w1 n_11 0 38 ∧
 ∀ (w1_5 : World),
 PutB w1 n_11 0
 (arrI IntKind.u8 f_1 32 0 ++ [Value.slice p_2 n_9 c_2,
 Value.string x_25,
 Value.int IntKind.i64 x_26,
 Value.bool x_27,
 Value.string x_28,
 Value.int IntKind.i64 x_29])
 w1_5 →
 ∃ (x_30 : ByteArray),
 ∃ (x_31 : ByteArray),
 ∃ (x_32 : Int),
 ∃ (x_33 : Int),
 ∃ (p : Option Addr),
 ∃ (n : Nat),
 ∃ (c : Nat),
 AtL w1_5 n_6 0
 [Value.string x_30,
 Value.string x_31,
 Value.int
 IntKind.i64 x_32,
 Value.int
 IntKind.i64 x_33,
 Value.slice p n
 c] ∧
 ∃ (f : Nat → Int),
 ∃ (p_3 :
 Option Addr),
 ∃ (n_12 : Nat),
 ∃ (c_3 : Nat),
 ∃ (x_34 :
 ByteArray),
 ∃ (x_35 : Int),
 ∃ (x_36 :
 Bool),
 ∃ (x_37 :
 ByteArray),
 ∃ (x_38 :
 Int),
 AtL w1_5
 n_11 0
 (arrI IntKind.u8 f 32 0 ++ [Value.slice
 p_3 n_12
 c_3,
 Value.string
 x_34,
 Value.int
 IntKind.i64
 x_35,
 Value.bool
 x_36,
 Value.string
 x_37,
 Value.int
 IntKind.i64
 x_38]) ∧
 CallsS
 Tryd.prog
 15
 #[Value.agg
 #[Value.string
 x_30,
 Value.string
 x_31,
 Value.int
 IntKind.i64
 x_32,
 Value.int
 IntKind.i64
 x_33,
 Value.slice
 p n
 c],
 Value.agg
 (arrI IntKind.u8 f 32 0 ++ [Value.slice
 p_3
 n_12
 c_3,
 Value.string
 x_34,
 Value.int
 IntKind.i64
 x_35,
 Value.bool
 x_36,
 Value.string
 x_37,
 Value.int
 IntKind.i64
 x_38]).toArray]
 w1_5
 fun
 (e :
 Ending)
 (w' :
 World) =>
 ∃ (x_39 :
 Int),
 e =
 Ending.returned
 (Value.int
 IntKind.i64
 x_39) ∧
 ∃ (f :
 Nat →
 Int),
 ∃ (p :
 Option
 Addr),
 ∃ (n :
 Nat),
 ∃ (c
 :
 Nat),
 ∃
 (x_40
 :
 ByteArray),
 ∃
 (x_41
 :
 Int),
 ∃
 (x_42
 :
 Bool),
 ∃
 (x_43
 :
 ByteArray),
 ∃
 (x_44
 :
 Int),
 AtL
 w'
 n_10
 0
 (arrI IntKind.u8 f 32 0 ++ [Value.slice
 p
 n
 c,
 Value.string
 x_40,
 Value.int
 IntKind.i64
 x_41,
 Value.bool
 x_42,
 Value.string
 x_43,
 Value.int
 IntKind.i64
 x_44]) ∧
 CallsS
 Tryd.prog
 16
 #[Value.pointer
 x,
 Value.agg
 (arrI IntKind.u8 f 32 0 ++ [Value.slice
 p
 n
 c,
 Value.string
 x_40,
 Value.int
 IntKind.i64
 x_41,
 Value.bool
 x_42,
 Value.string
 x_43,
 Value.int
 IntKind.i64
 x_44]).toArray]
 w'
 fun
 (e :
 Ending)
 (w' :
 World) =>
 ∃
 (x_45
 :
 Int),
 ∃
 (x_46
 :
 Bool),
 e =
 Ending.returned
 (Value.tuple
 #[Value.int
 IntKind.i64
 x_45,
 Value.bool
 x_46]) ∧
 ∃
 (f
 :
 Nat →
 Int),
 ∃
 (p
 :
 Option
 Addr),
 ∃
 (n
 :
 Nat),
 ∃
 (c
 :
 Nat),
 ∃
 (x_47
 :
 ByteArray),
 ∃
 (x_48
 :
 Int),
 ∃
 (x_49
 :
 Bool),
 ∃
 (x_50
 :
 ByteArray),
 ∃
 (x_51
 :
 Int),
 AtL
 w'
 n_10
 0
 (arrI IntKind.u8 f 32 0 ++ [Value.slice
 p
 n
 c,
 Value.string
 x_47,
 Value.int
 IntKind.i64
 x_48,
 Value.bool
 x_49,
 Value.string
 x_50,
 Value.int
 IntKind.i64
 x_51]) ∧
 CallsS
 Tryd.prog
 17
 #[Value.pointer
 x,
 Value.agg
 (arrI IntKind.u8 f 32 0 ++ [Value.slice
 p
 n
 c,
 Value.string
 x_47,
 Value.int
 IntKind.i64
 x_48,
 Value.bool
 x_49,
 Value.string
 x_50,
 Value.int
 IntKind.i64
 x_51]).toArray]
 w'
 fun
 (e :
 Ending)
 (w' :
 World) =>
 ∃
 (x
 :
 Int),
 e =
 Ending.returned
 (Value.int
 IntKind.i64
 x) ∧
 bsp
 (x !=
 x_39 ||
 !x_46 ==
 (x_39 ==
 0))
 (R
 (Ending.returned
 (Value.bool
 false))
 w')
 (CallsS
 Tryd.prog
 12
 #[]
 w'
 fun
 (e :
 Ending)
 (w' :
 World) =>
 ∃
 (x
 :
 Bool),
 e =
 Ending.returned
 (Value.bool
 x) ∧
 ∃
 (x_52
 :
 ByteArray),
 ∃
 (x_53
 :
 ByteArray),
 ∃
 (x_54
 :
 Int),
 ∃
 (x_55
 :
 Int),
 ∃
 (p
 :
 Option
 Addr),
 ∃
 (n
 :
 Nat),
 ∃
 (c
 :
 Nat),
 gimp
 (x &&
 x_46)
 (AtL
 w'
 n_6
 0
 [Value.string
 x_52,
 Value.string
 x_53,
 Value.int
 IntKind.i64
 x_54,
 Value.int
 IntKind.i64
 x_55,
 Value.slice
 p
 n
 c]) ∧
 ∃
 (f
 :
 Nat →
 Int),
 ∃
 (p_4
 :
 Option
 Addr),
 ∃
 (n_13
 :
 Nat),
 ∃
 (c_4
 :
 Nat),
 ∃
 (x_56
 :
 ByteArray),
 ∃
 (x_57
 :
 Int),
 ∃
 (x_58
 :
 Bool),
 ∃
 (x_59
 :
 ByteArray),
 ∃
 (x_60
 :
 Int),
 gimp
 (x &&
 x_46)
 (AtL
 w'
 n_11
 0
 (arrI IntKind.u8 f 32 0 ++ [Value.slice
 p_4
 n_13
 c_4,
 Value.string
 x_56,
 Value.int
 IntKind.i64
 x_57,
 Value.bool
 x_58,
 Value.string
 x_59,
 Value.int
 IntKind.i64
 x_60])) ∧
 bsp
 x
 (bsp
 x_46
 (CallsS
 Tryd.prog
 18
 #[Value.agg
 #[Value.string
 x_52,
 Value.string
 x_53,
 Value.int
 IntKind.i64
 x_54,
 Value.int
 IntKind.i64
 x_55,
 Value.slice
 p
 n
 c],
 Value.agg
 (arrI IntKind.u8 f 32 0 ++ [Value.slice
 p_4
 n_13
 c_4,
 Value.string
 x_56,
 Value.int
 IntKind.i64
 x_57,
 Value.bool
 x_58,
 Value.string
 x_59,
 Value.int
 IntKind.i64
 x_60]).toArray]
 w'
 fun
 (e :
 Ending)
 (w' :
 World) =>
 ∃
 (x
 :
 Int),
 e =
 Ending.returned
 (Value.int
 IntKind.i64
 x) ∧
 R
 (Ending.returned
 (Value.bool
 (true &&
 (true &&
 x_45 ==
 x ||
 !x_46 &&
 x_45 ==
 0))))
 w')
 (R
 (Ending.returned
 (Value.bool
 (true &&
 (false ||
 !x_46 &&
 x_45 ==
 0))))
 w'))
 (R
 (Ending.returned
 (Value.bool
 false))
 w')))
theorem vc_reasons (nb : ByteArray) (ps : ByteArray) (mb : Int) (dl : Int) (p : Option Addr) (n : Nat) (c : Nat) (a : Array Value) (w : World) (R : Ending → World → Prop) (h : VC_reasons nb ps mb dl p n c a w R) : Calls Tryd.prog 3 ([Value.agg
    #[Value.string nb, Value.string ps, Value.int IntKind.i64 mb, Value.int IntKind.i64 dl, Value.slice p n c],
  Value.agg a] : List Value).toArray w R := by
  have e : execR { P := Tryd.prog, loops := [], pur := pur1, tails := [], joins := [], boxes := [] } Tryd.f3.results.toList R (Tryd.f3.body.getD .skip) (initF [Value.agg
    #[Value.string nb, Value.string ps, Value.int IntKind.i64 mb, Value.int IntKind.i64 dl, Value.slice p n c],
  Value.agg
    a] (Tryd.f3.ntmps - ([Value.agg
    #[Value.string nb, Value.string ps, Value.int IntKind.i64 mb, Value.int IntKind.i64 dl, Value.slice p n c],
  Value.agg a] : List Value).length)) w = VC_reasons nb ps mb dl p n c a w R := by kernel_rfl
  have hb : Tryd.f3.body = some (Tryd.f3.body.getD .skip) := by kernel_rfl
  exact calls_of_exec' (P := Tryd.prog) (fn := Tryd.f3) (c := Tryd.f3.body.getD .skip) (args := [Value.agg
    #[Value.string nb, Value.string ps, Value.int IntKind.i64 mb, Value.int IntKind.i64 dl, Value.slice p n c],
  Value.agg a]) (w := w) (R := R) pur1_ok Tryd.func3 hb e h

end Go.Proofs.YtcpjajjocmpkjaaDoor

/- The statement FeedruleReasons on worlds: it returns true and leaves what was there as it was. Strings have at most 2^47 bytes. -/
namespace Go.Proofs.YtcpjajjocmpkjaaDoor
open Go.RowKit

theorem chk_dl {nb ps : ByteArray} {mb dl : Int} {ds : List ByteArray} {es : List Ent} (hL : listR ps = .inl es) (h0 : chkS nb ps mb dl ds = 0) : 0 ≤ dl ∧ dl ≤ 20160 := by
  unfold chkS at h0
  split at h0
  · rename_i h; exact absurd h0 h
  · rw [hL] at h0
    simp only at h0
    split at h0
    · cases h0
    · rename_i h; omega
set_option maxHeartbeats 1000000 in
theorem reasons_any (nb ps : ByteArray) (mb dl : Int) (p : Option Addr) (c : Nat) (ds : List ByteArray) (x : It) (q : Option Addr) (cx : Nat) (w : World) (hG : GW w) (hds : StrP w p ds) (hdz : ∀ z ∈ ds, z.size ≤ 9223372036854775807) (hg : StrP w q x.gs) (hc : x.gs.length ≤ cx) (hx : ∀ z ∈ x.gs, z.size ≤ 140737488355328) (har : -9223372036854775808 ≤ x.ar ∧ x.ar ≤ 9223372036854775807) :
    Calls Tryd.prog 3 #[.agg #[.string nb, .string ps, .int .i64 mb, .int .i64 dl, .slice p ds.length c], .agg (x.cells q cx)] w fun e w' => e = .returned (.bool true) ∧ K0 w w' := by
  refine vc_reasons nb ps mb dl p ds.length c (x.cells q cx) w _ ?_
  intro n1 w1 hn1 n w2 hn
  have k2 : K0 w w2 := (hn1.kp _).trans (hn.kp _)
  have b1 := (hn.kp (fun _ => False)).blk hn1.block (fun h => h)
  refine ⟨nb, ps, mb, dl, p, ds.length, c, AtL_block b1 rfl, ⟨(to_any nb ps mb dl p c ds w2 (hds.kp k2 (fun _ _ _ h => h))).mono fun e w3 he => ?_⟩⟩
  obtain ⟨p1, p2, c1, c2, he, ho1, ho2, hne, hk3⟩ := he
  refine ⟨_, _, _, _, _, _, _, _, _, _, _, _, _, _, he, fun n5 w4 hn4 n6 w5 hn5 => ?_⟩
  have k35 := (hn4.kp (fun _ => False)).trans (hn5.kp (fun _ => False))
  have b54 := (hn5.kp (fun _ => False)).blk hn4.block (fun h => h)
  have g5 : w3.heap.size ≤ n5 := hn4.ge
  have g6 : n5 < n6 := by have := hn4.size; have := hn5.ge; omega
  refine ⟨WrL_block b54 (by simp), fun w6 hp6 => ?_⟩
  have b56 := hp6.full b54 rfl
  have b66 := hp6.kp.blk hn5.block (fun e => by omega)
  refine ⟨WrL_block b66 (by simp), fun w7 hp7 => ?_⟩
  have b57 := hp7.kp.blk b56 (fun e => by omega)
  have b67 := hp7.full b66 rfl
  have k37 : K0 w3 w7 := (k35.fresh hp6.kp (fun i hi e => by omega)).fresh hp7.kp (fun i hi e => by omega)
  have k7 : K0 w w7 := (k2.trans hk3).trans k37
  generalize hnb : nb.extract 0 (min nb.size 40) = nb' at *
  generalize hps : ps.extract 0 (min ps.size 300) = ps' at *
  have hps' : ps'.size ≤ 300 := by rw [← hps, ByteArray.size_extract]; omega
  have hd10 : (ds.take 10).length ≤ 10 := by rw [List.length_take]; omega
  have hdz' : ∀ z ∈ ds.take 10, z.size ≤ 9223372036854775807 := fun z hz => hdz z (List.mem_of_mem_take hz)
  generalize ds.take 10 = ds' at *
  obtain ⟨_, hc1, hs1, _, _⟩ := own_strP (owns_kp ho1 k37 (fun _ _ h => h))
  obtain ⟨_, hc2, hs2, _, _⟩ := own_strP (owns_kp ho2 k37 (fun _ _ h => h))
  refine ⟨nb', ps', mb, dl, p1, ds'.length, c1, AtL_block b57 rfl, ⟨(fcompile_any nb' ps' mb dl p1 c1 ds' w7 (by omega) (hG.kp k7 (fun h => h)) hs1 hc1 (by omega)).mono fun e w8 ⟨hk8, he⟩ => ?_⟩⟩
  have k8 : K0 w w8 := k7.trans hk8
  have gw8 := hG.kp k8 (fun h => h)
  rcases he with ⟨h0, he⟩ | ⟨h0, b, es, hL, he, hf⟩
  · refine ⟨_, _, he, bsp_intro (fun _ => ?_) (fun h => ?_)⟩
    · refine ⟨(known_any w8 gw8).mono fun e w9 ⟨he, hk9⟩ => ⟨_, he, nb', ps', mb, dl, p2, ds'.length, c2, gimp_intro fun _ => AtL_block ((hk8.trans hk9).blk b67 (fun h => h)) rfl, bsp_intro (fun _ => ?_) (fun h => absurd h (by decide))⟩⟩
      refine ⟨(rcheck_any nb' ps' mb dl p2 c2 ds' w9 (by omega) (hs2.kp (hk8.trans hk9) (fun _ _ _ h => h)) hc2 (by omega) hdz').mono fun e wa ⟨he, hka⟩ => ⟨_, he, ?_, (k8.trans hk9).trans hka⟩⟩
      simp
    · exfalso; simp at h
  refine ⟨_, _, he, bsp_intro (fun h => absurd h (by simp)) (fun _ => ?_)⟩
  obtain ⟨h64, h80⟩ := listR_ok hL
  have hdlb := chk_dl hL h0
  have bn8 : w8.heap[n]? = some (.cells (x.cells q cx) 27 (0, 0)) := ((hk3.trans k37).trans hk8).blk hn.block (fun h => h)
  refine ⟨x.id, q, x.gs.length, cx, x.d, x.by_, x.ct, x.fr, x.ar, AtL_block bn8 rfl, ⟨(item_any x q cx w8 (hg.kp k8 (fun _ _ _ h => h)) hc).mono fun e w9 he => ?_⟩⟩
  obtain ⟨q1, q2, d1, d2, he, hr1, hr2, hk9⟩ := he
  refine ⟨_, _, _, _, _, _, _, _, _, _, _, _, _, _, _, _, _, _, he, fun n10 wa hna n11 wb hnb' => ?_⟩
  have ga : w9.heap.size ≤ n10 := hna.ge
  have gb : n10 < n11 := by have := hna.size; have := hnb'.ge; omega
  have b10b := (hnb'.kp (fun _ => False)).blk hna.block (fun h => h)
  refine ⟨WrL_block b10b (by simp), fun wc hpc => ?_⟩
  have b10c : wc.heap[n10]? = some (.cells (x.cut.cells q1 d1) 39 (0, 0)) := hpc.full b10b rfl
  have b11c := hpc.kp.blk hnb'.block (fun e => by omega)
  refine ⟨WrL_block b11c (by simp), fun wd hpd => ?_⟩
  have b11d : wd.heap[n11]? = some (.cells (x.cut.cells q2 d2) 27 (0, 0)) := hpd.full b11c rfl
  have b10d := hpd.kp.blk b10c (fun e => by omega)
  have k9d : K0 w9 wd := (((hna.kp (fun _ => False)).trans (hnb'.kp _)).fresh hpc.kp (fun i hi e => by omega)).fresh hpd.kp (fun i hi e => by omega)
  clear hna hnb' b10b hpc b10c b11c hpd
  have hxg : ∀ z ∈ x.cut.gs, z.size ≤ 140737488355328 := fun z hz => hx z (List.mem_of_mem_take hz)
  have hxl : x.cut.gs.length ≤ 20 := by show (x.gs.take 20).length ≤ 20; rw [List.length_take]; omega
  have hxok : x.cut.ok := ⟨by omega, fun z hz => by have := hxg z hz; omega⟩
  obtain ⟨_, _, hsq1, _, _⟩ := own_strP hr1
  obtain ⟨_, _, hsq2, _, _⟩ := own_strP hr2
  have k8d : K0 w8 wd := hk9.trans k9d
  have b6d := (hk8.trans k8d).blk b67 (fun h => h)
  refine ⟨nb', ps', mb, dl, p2, ds'.length, c2, AtL_block b6d rfl, x.cut.id, q2, x.cut.gs.length, d2, x.cut.d, x.cut.by_, x.cut.ct, x.cut.fr, x.cut.ar, AtL_block b11d rfl, ?_⟩
  refine ⟨(rreason_any nb' ps' mb dl p2 c2 ds' x.cut q2 d2 es wd (by omega) hL (hs2.kp (hk8.trans k8d) (fun _ _ _ h => h)) (by omega) (hsq2.kp k9d (fun _ _ _ h => h)) (by omega) hxg).mono fun e we ⟨he, hke⟩ => ⟨_, he, ?_⟩⟩
  have k9e := k9d.trans hke
  have b10e := hke.blk b10d (fun h => h)
  refine ⟨x.cut.id, q1, x.cut.gs.length, d1, x.cut.d, x.cut.by_, x.cut.ct, x.cut.fr, x.cut.ar, AtL_block b10e rfl, ?_⟩
  refine ⟨(due_any (x := x.cut) (p := q1) (c := d1) (hf.kp (hk9.trans k9e) (fun _ _ _ h => h)) (hsq1.kp k9e (fun _ _ _ h => h)) h64 h80 (by omega) hxok hdlb har).mono fun e wf ⟨he, hkf⟩ => ?_⟩
  have k9f := k9e.trans hkf
  have b10f := hkf.blk b10e (fun h => h)
  generalize hrs : rsnS nb' mb ds' es x.cut = rs at *
  have fin : ∀ (due : Int) (is : Bool), e = .returned (.tuple #[.int .i64 due, .bool is]) → (is = true → due = dueS dl x.cut.ar ∧ rs = 0) → (is = false → due = 0 ∧ rs ≠ 0) → (∃ (x_45 : Int) (x_46 : Bool), e = .returned (.tuple #[.int .i64 x_45, .bool x_46]) ∧ x_45 = due ∧ x_46 = is) := fun due is he _ _ => ⟨due, is, he, rfl, rfl⟩
  have hdue : ∃ (due : Int) (is : Bool), e = .returned (.tuple #[.int .i64 due, .bool is]) ∧ (is = true → due = dueS dl x.cut.ar ∧ rs = 0) ∧ (is = false → due = 0 ∧ rs ≠ 0) := by
    by_cases h : rs = 0
    · rw [if_pos h] at he
      exact ⟨_, _, he, fun _ => ⟨rfl, h⟩, (fun h => by cases h)⟩
    · rw [if_neg h] at he
      exact ⟨_, _, he, (fun h => by cases h), fun _ => ⟨rfl, h⟩⟩
  clear fin
  obtain ⟨due, is, he, hi1, hi2⟩ := hdue
  refine ⟨due, is, he, x.cut.id, q1, x.cut.gs.length, d1, x.cut.d, x.cut.by_, x.cut.ct, x.cut.fr, x.cut.ar, AtL_block b10f rfl, ?_⟩
  refine ⟨(reason_any (x := x.cut) (p := q1) (c := d1) (hf.kp (hk9.trans k9f) (fun _ _ _ h => h)) (hsq1.kp k9f (fun _ _ _ h => h)) h64 h80 (by omega) hxok).mono fun e wg ⟨he, hkg⟩ => ⟨_, he, ?_⟩⟩
  rw [hrs]
  have k9g := k9f.trans hkg
  have k8g : K0 w8 wg := hk9.trans k9g
  refine bsp_intro (fun h => ?_) (fun _ => ?_)
  · exfalso
    cases is with
    | true => obtain ⟨_, h0⟩ := hi1 rfl; subst h0; simp at h
    | false =>
      obtain ⟨_, h0⟩ := hi2 rfl
      have : (rs == 0) = false := by simpa using h0
      rw [this] at h
      simp at h
  refine ⟨(known_any wg (hG.kp (k8.trans k8g) (fun h => h))).mono fun e wh ⟨he, hkh⟩ => ⟨_, he, ?_⟩⟩
  have k8h := k8g.trans hkh
  have b6h := (hk8.trans k8h).blk b67 (fun h => h)
  have b11h := ((hke.trans hkf).trans (hkg.trans hkh)).blk b11d (fun h => h)
  refine ⟨nb', ps', mb, dl, p2, ds'.length, c2, gimp_intro fun _ => AtL_block b6h rfl, x.cut.id, q2, x.cut.gs.length, d2, x.cut.d, x.cut.by_, x.cut.ct, x.cut.fr, x.cut.ar, gimp_intro fun _ => AtL_block b11h rfl, bsp_intro (fun _ => ?_) (fun h => absurd h (by decide))⟩
  refine bsp_intro (fun hi => ?_) (fun hi => ⟨?_, k8.trans k8h⟩)
  · refine ⟨(rdue_any nb' ps' mb dl p2 ds'.length c2 x.cut q2 d2 wh hdlb har).mono fun e wi ⟨he, hki⟩ => ⟨_, he, ?_, (k8.trans k8h).trans hki⟩⟩
    rw [(hi1 hi).1]
    simp
  · rw [(hi2 hi).1, hi]
    simp

end Go.Proofs.YtcpjajjocmpkjaaDoor

/- The statement FeedruleLater on worlds: it returns true and leaves what was there as it was. -/
namespace Go.Proofs.YtcpjajjocmpkjaaDoor
open Go.RowKit

theorem candsOf_mem {nb : ByteArray} {mb dl : Int} {ds : List ByteArray} {es : List Ent} {now later : Int} (h : now ≤ later) {l : List It} {x : Cand} (hx : x ∈ candsOf nb mb dl ds es now l) : x ∈ candsOf nb mb dl ds es later l := by
  unfold candsOf at hx ⊢
  obtain ⟨z, hz, hzx⟩ := List.mem_filterMap.1 hx
  refine List.mem_filterMap.2 ⟨z, hz, ?_⟩
  split at hzx
  · rename_i hc
    rw [if_pos ⟨hc.1, by omega⟩]; exact hzx
  · cases hzx
/-- A row of arrays of bytes. -/
theorem idRow {w : World} {base : Nat} {p : Option Addr} {c : Nat} {ids : List (List Int)} (h : w.ownsRow base 37 32 (.slice p ids.length c) ids.length (ids.flatMap byL)) (hl : ∀ x ∈ ids, x.length = 32) {k : Nat} {x : List Int} (hk : ids[k]? = some x) : ∃ g, p = some ⟨g, 0, none⟩ ∧ AtL w g (0 + k * 32) (byL x) := by
  have hx := hl x (List.mem_of_getElem? hk)
  have key : ∀ j v, (byL x)[j]? = some v → ∃ g, p = some ⟨g, 0, none⟩ ∧ w.cell? ⟨g, k * 32 + j, none⟩ = some v := fun j v hv => own_cellL h (by
    have hj : j < 32 := by have := (List.getElem?_eq_some_iff.1 hv).1; unfold byL at this; rw [List.length_map] at this; omega
    rw [flat_get byL 32 ids k x j (fun z hz => by unfold byL; rw [List.length_map]; exact hl z hz) hk hj]; exact hv)
  obtain ⟨g, hp, _⟩ := key 0 _ (List.getElem?_eq_getElem (by unfold byL; rw [List.length_map]; omega))
  refine ⟨g, hp, ⟨At_of _ _ fun j v hv => ?_⟩⟩
  obtain ⟨g', hp', hc⟩ := key j v hv
  rw [hp] at hp'
  simp only [Option.some.injEq, Addr.mk.injEq, and_true] at hp'
  subst hp'
  rw [Nat.zero_add]; exact hc

set_option maxRecDepth 100000 in
set_option maxHeartbeats 2000000 in
theorem later_any (nb ps : ByteArray) (mb dl : Int) (p : Option Addr) (c : Nat) (ds : List ByteArray) (q : Option Addr) (n d : Nat) (L : List ItA) (now later : Int) (w : World) (hG : GW w) (hds : StrP w p ds) (hA : ArgI w q n L)
    (hok : ∀ y ∈ L, (∀ z ∈ y.1.gs, z.size ≤ 9223372036854775807) ∧ (-9223372036854775808 ≤ y.1.ar ∧ y.1.ar ≤ 9223372036854775807) ∧ ∀ j, 0 ≤ y.1.id j ∧ y.1.id j ≤ 255) :
    Calls Tryd.prog 8 #[.agg #[.string nb, .string ps, .int .i64 mb, .int .i64 dl, .slice p ds.length c], .slice q n d, .int .i64 now, .int .i64 later] w fun e w' => e = .returned (.bool true) ∧ K0 w w' := by
  refine vc_later nb ps mb dl p ds.length c q n d now later w _ ?_
  intro n1 w2 hn1
  have k2 : K0 w w2 := hn1.kp _
  refine ⟨nb, ps, mb, dl, p, ds.length, c, AtL_block hn1.block rfl, ⟨(to_any nb ps mb dl p c ds w2 (hds.kp k2 (fun _ _ _ h => h))).mono fun e w3 he => ?_⟩⟩
  obtain ⟨p1, p2, c1, c2, he, ho1, ho2, hne, hk3⟩ := he
  refine ⟨_, _, _, _, _, _, _, _, _, _, _, _, _, _, he, fun n3 w4 hn4 n4 w5 hn5 => ?_⟩
  have k35 := (hn4.kp (fun _ => False)).trans (hn5.kp (fun _ => False))
  have b54 := (hn5.kp (fun _ => False)).blk hn4.block (fun h => h)
  have g5 : w3.heap.size ≤ n3 := hn4.ge
  have g6 : n3 < n4 := by have := hn4.size; have := hn5.ge; omega
  refine ⟨WrL_block b54 (by simp), fun w6 hp6 => ?_⟩
  have b56 := hp6.full b54 rfl
  have b66 := hp6.kp.blk hn5.block (fun e => by omega)
  refine ⟨WrL_block b66 (by simp), fun w7 hp7 => ?_⟩
  have b57 := hp7.kp.blk b56 (fun e => by omega)
  have k37 : K0 w3 w7 := (k35.fresh hp6.kp (fun i hi e => by omega)).fresh hp7.kp (fun i hi e => by omega)
  have k7 : K0 w w7 := (k2.trans hk3).trans k37
  generalize hnb : nb.extract 0 (min nb.size 40) = nb' at *
  generalize hps : ps.extract 0 (min ps.size 300) = ps' at *
  have hps' : ps'.size ≤ 300 := by rw [← hps, ByteArray.size_extract]; omega
  have hd10 : (ds.take 10).length ≤ 10 := by rw [List.length_take]; omega
  generalize ds.take 10 = ds' at *
  obtain ⟨_, hc1, hs1, _, _⟩ := own_strP (owns_kp ho1 k37 (fun _ _ h => h))
  refine ⟨nb', ps', mb, dl, p1, ds'.length, c1, AtL_block b57 rfl, ⟨(fcompile_any nb' ps' mb dl p1 c1 ds' w7 (by omega) (hG.kp k7 (fun h => h)) hs1 hc1 (by omega)).mono fun e w8 ⟨hk8, he⟩ => ?_⟩⟩
  have k8 : K0 w w8 := k7.trans hk8
  have gw8 := hG.kp k8 (fun h => h)
  have kn : CallsS Tryd.prog 12 #[] w8 fun e w' => ∃ x : Bool, e = .returned (.bool x) ∧ Ending.returned (.bool x) = .returned (.bool true) ∧ K0 w w' := ⟨(known_any w8 gw8).mono fun e w9 ⟨he, hk9⟩ => ⟨_, he, rfl, k8.trans hk9⟩⟩
  rcases he with ⟨h0, he⟩ | ⟨h0, b, es, hL, he, hf⟩
  · refine ⟨_, _, he, bsp_intro (fun _ => kn) (fun h => ?_)⟩
    exfalso; simp at h
  refine ⟨_, _, he, bsp_intro (fun _ => kn) (fun hnl => ?_)⟩
  have hnl : now ≤ later := by simp at hnl; omega
  obtain ⟨h64, h80⟩ := listR_ok hL
  have hdlb := chk_dl hL h0
  have hA8 : ArgI w8 q n L := ⟨hA.len, fun k y hy => by
    obtain ⟨b, o, h1, h2, h3, h4⟩ := hA.at_ k y hy
    exact ⟨b, o, h1, h2.k0 k8, h3.kp k8 (fun _ _ _ h => h), h4⟩⟩
  refine ⟨(items_any' q n d L w8 hA8).mono fun e w9 he => ?_⟩
  obtain ⟨pa, pb, ca, cb, L1, L2, he, hI1, hI2, hm1, hm2, hk9⟩ := he
  have hok1 : ∀ y ∈ L1, y.1.ok ∧ (-9223372036854775808 ≤ y.1.ar ∧ y.1.ar ≤ 9223372036854775807) ∧ ∀ j, 0 ≤ y.1.id j ∧ y.1.id j ≤ 255 := fun y hy => by
    have : y.1 ∈ L1.map (·.1) := List.mem_map.2 ⟨y, hy, rfl⟩
    rw [hm1] at this
    obtain ⟨z, hz, e⟩ := List.mem_map.1 this
    obtain ⟨h1, h2, h3⟩ := hok z (List.mem_of_mem_take hz)
    rw [← e]
    refine ⟨⟨?_, fun u hu => h1 u (List.mem_of_mem_take hu)⟩, h2, h3⟩
    show (z.1.gs.take 20).length ≤ _
    rw [List.length_take]; omega
  refine ⟨_, _, _, _, _, _, he, ⟨(select_any (hf.kp hk9 (fun _ _ _ h => h)) h64 h80 (by omega) hdlb hI1 (by omega) hok1 now).mono fun e wa he => ?_⟩⟩
  obtain ⟨cs1, pc, cc, hperm1, _, he, hrow1, hka⟩ := he
  generalize hid1 : ddS [] (cs1.map fun x => idI x.2) = ids1 at he hrow1
  refine ⟨_, _, _, he, ⟨(select_any (hf.kp (hk9.trans hka) (fun _ _ _ h => h)) h64 h80 (by omega) hdlb (hI1.kp hka) (by omega) hok1 later).mono fun e wb he => ?_⟩⟩
  obtain ⟨cs2, pd, cd, hperm2, _, he, hrow2, hkb⟩ := he
  generalize hid2 : ddS [] (cs2.map fun x => idI x.2) = ids2 at he hrow2
  refine ⟨_, _, _, he, ?_⟩
  have hrow1' := owns_kp hrow1 hkb (fun _ _ h => h)
  have mem1 : ∀ x, x ∈ ids1 ↔ ∃ y ∈ cs1, idI y.2 = x := fun x => by rw [← hid1, ddS_mem]; simp
  have mem2 : ∀ x, x ∈ ids2 ↔ ∃ y ∈ cs2, idI y.2 = x := fun x => by rw [← hid2, ddS_mem]; simp
  have sub : ∀ x ∈ ids1, x ∈ ids2 := fun x hx => by
    obtain ⟨y, hy, e⟩ := (mem1 x).1 hx
    refine (mem2 x).2 ⟨y, hperm2.mem_iff.2 (candsOf_mem hnl (hperm1.mem_iff.1 hy)), e⟩
  have cbd : ∀ (t : Int) (cs : List Cand), cs.Perm (candsOf nb' mb dl ds' es t (L1.map (·.1))) → ∀ y ∈ cs, ∀ j, 0 ≤ y.2 j ∧ y.2 j ≤ 255 := fun t cs hp y hy j => by
    have hy' := hp.mem_iff.1 hy
    unfold candsOf at hy'
    obtain ⟨z, hz, hzx⟩ := List.mem_filterMap.1 hy'
    obtain ⟨u, hu, rfl⟩ := List.mem_map.1 hz
    split at hzx
    · simp at hzx
      rw [← hzx]
      exact (hok1 u hu).2.2 j
    · cases hzx
  have fn1 : ∀ x ∈ ids1, ∃ f : Nat → Int, x = idI f ∧ ∀ j, 0 ≤ f j ∧ f j ≤ 255 := fun x hx => by
    obtain ⟨y, hy, e⟩ := (mem1 x).1 hx
    exact ⟨y.2, e.symm, cbd now cs1 hperm1 y hy⟩
  have fn2 : ∀ x ∈ ids2, ∃ f : Nat → Int, x = idI f ∧ ∀ j, 0 ≤ f j ∧ f j ≤ 255 := fun x hx => by
    obtain ⟨y, hy, e⟩ := (mem2 x).1 hx
    exact ⟨y.2, e.symm, cbd later cs2 hperm2 y hy⟩
  have ln1 : ∀ x ∈ ids1, x.length = 32 := fun x hx => by obtain ⟨f, e, _⟩ := fn1 x hx; rw [e]; exact idI_len f
  have ln2 : ∀ x ∈ ids2, x.length = 32 := fun x hx => by obtain ⟨f, e, _⟩ := fn2 x hx; rw [e]; exact idI_len f
  have dlen : ∀ (l acc : List (List Int)), (ddS acc l).length ≤ acc.length + l.length := by
    intro l
    induction l with
    | nil => intro acc; simp [ddS]
    | cons a r ih =>
      intro acc
      rw [ddS_cons]
      split
      · have := ih acc; simp; omega
      · have := ih (acc ++ [a]); simp at this ⊢; omega
  have len20 : ∀ (t : Int) (cs : List Cand) , cs.Perm (candsOf nb' mb dl ds' es t (L1.map (·.1))) → (ddS [] (cs.map fun x => idI x.2)).length ≤ 20 := fun t cs hp => by
    have h1 := dlen (cs.map fun x => idI x.2) []
    have h2 := hp.length_eq
    have h3 := candsOf_len nb' mb dl ds' es t (L1.map (·.1))
    have h4 := hI1.len
    rw [List.length_map] at h1 h3
    simp at h1
    omega
  have l1 : ids1.length ≤ 20 := by rw [← hid1]; exact len20 now cs1 hperm1
  have l2 : ids2.length ≤ 20 := by rw [← hid2]; exact len20 later cs2 hperm2
  have kb : K0 w wb := ((k8.trans hk9).trans hka).trans hkb
  refine count1 ids1.length (by omega) (fun k wx => K0 wb wx) (.refl _ _) ?_
  intro I m k wx hk kx next
  refine bsp_intro (fun hlt => ?_) (fun _ => ?_)
  · have hlt : k < ids1.length := by simpa using hlt
    obtain ⟨x, hx⟩ : ∃ x, ids1[k]? = some x := ⟨_, List.getElem?_eq_getElem hlt⟩
    have hxm := List.mem_of_getElem? hx
    obtain ⟨f, hxf, hfb⟩ := fn1 x hxm
    refine ⟨fun vs wy => ∃ j : Nat, vs = [.int .i64 (j : Int), .bool (decide (x ∈ ids2.take j))] ∧ j ≤ ids2.length ∧ K0 wb wy, fun vs _ => (match vs with | .int _ x :: _ => ids2.length - x.toNat | _ => 0), ⟨0, by simp, by omega, kx⟩, ?_⟩
    rintro i bb wy ⟨j, hv, hj, ky⟩
    simp only [List.cons.injEq, Value.int.injEq, Value.bool.injEq, true_and, and_true] at hv
    obtain ⟨rfl, rfl⟩ := hv
    refine bsp_intro (fun hlt2 => ?_) (fun hge2 => ?_)
    · have hlt2 : j < ids2.length := by simpa using hlt2
      obtain ⟨z, hz⟩ : ∃ z, ids2[j]? = some z := ⟨_, List.getElem?_eq_getElem hlt2⟩
      obtain ⟨g, hgf, hgb⟩ := fn2 z (List.mem_of_getElem? hz)
      obtain ⟨gd, rfl, had⟩ := idRow hrow2 ln2 hz
      obtain ⟨gc, rfl, hac⟩ := idRow hrow1' ln1 hx
      have f1 : IntKind.i64.wrap ((j : Int) + 1) = ((j + 1 : Nat) : Int) := by rw [wr64 (by omega) (by omega)]; omega
      rw [f1, Int.toNat_natCast, Int.toNat_natCast]
      show gimp _ _ ∧ _
      refine ⟨gimp_intro fun _ => by omega, g, gimp_intro fun _ => ?_, ?_⟩
      · have := had.k0 ky.drew
        rw [hgf] at this
        exact this
      show gimp _ _ ∧ _
      refine ⟨gimp_intro fun _ => by omega, f, gimp_intro fun _ => ?_, decide (z = x), gimp_intro fun _ => ?_, ⟨j + 1, ?_, by omega, ky.drew⟩, by simp only [Int.toNat_natCast]; omega⟩
      · have := hac.k0 ky.drew
        rw [hxf] at this
        exact this
      · rw [hgf, hxf]
        exact idEq (idI_len g) (idI_bd hgb) (idI_len f) (idI_bd hfb)
      · have : ids2.take (j + 1) = ids2.take j ++ [z] := by rw [List.take_add_one, hz]; rfl
        rw [this]
        congr 3
        rw [Bool.eq_iff_iff]
        simp only [Bool.or_eq_true, decide_eq_true_eq, List.mem_append, List.mem_singleton]
        constructor
        · rintro (h | h)
          · exact .inl h
          · exact .inr h.symm
        · rintro (h | h)
          · exact .inl h
          · exact .inr h.symm
    · have : j = ids2.length := by simp at hge2; omega
      subst this
      rw [List.take_length]
      have := sub x hxm
      refine bsp_intro (fun h => ?_) (fun _ => next hlt wy ky)
      exfalso; simp [this] at h
  · have kall : K0 w wx := kb.trans kx
    exact ⟨(known_any wx (hG.kp kall (fun h => h))).mono fun e wz ⟨he, hkz⟩ => ⟨_, he, rfl, kall.trans hkz⟩⟩

end Go.Proofs.YtcpjajjocmpkjaaDoor

/- What an argument that was read gives, with its size: strings and slices have at most 2^47 - 4096 bytes. Generic. No condition. -/
namespace Go.Proofs.YtcpjajjocmpkjaaDoor
open Go.ChangeShapes Go.WideShapes Go.ChangeAt Go.RowKit Go.Deep

theorem weightsAll_mem {H : Type} {P : Program} {e : TypeId} : ∀ {l : List (DataW H)} {d : DataW H}, d ∈ l → ∀ n ∈ d.weights P e, n ∈ DataW.weightsAll P e l
  | y :: l, d, hd, n, hn => by
    simp only [DataW.weightsAll, List.mem_append]
    rcases List.mem_cons.1 hd with rfl | h
    · exact .inl hn
    · exact .inr (weightsAll_mem h n hn)
/-- Cells that were read as a value of a type; no part is too great. -/
def Rw {H : Type} (enc : TypeId × Value → H) (P : Program) (W : World) (t : TypeId) (cs : List Value) : Prop := ∃ (fuel : Nat) (x : DataW H × List MemPlace), DataW.trod enc P W 0 (fun _ => true) true fuel t cs = some x ∧ ∀ n ∈ x.1.weights P t, n ≤ reachBytes
section
variable {H : Type} {enc : TypeId × Value → H} {P : Program} {W : World} {t : TypeId} {cs : List Value}
theorem Rw.rd (h : Rw enc P W t cs) : Rd enc P W t cs := by obtain ⟨f, x, h, _⟩ := h; exact ⟨f, x, h⟩
theorem Rw.of {v : Value} {d : DataW H} {ps : List MemPlace} {ts : List TypeId} {ds : List (DataW H)} (h : DataW.Trod enc P W 0 (fun _ => true) true t v d ps) (hz : (DataW.weightsEach P ts ds).all (· ≤ reachBytes) = true) (j : Nat) (ht : ts[j]? = some t) (hd : ds[j]? = some d) : Rw enc P W t v.cells.toList := by
  obtain ⟨fuel, h⟩ := h
  exact ⟨fuel, _, h, fun n hn => by simpa using List.all_eq_true.1 hz _ (DataW.weights_mem_each ht hd n hn)⟩
theorem Rw.field {fs : Array Field} (h : Rw enc P W t cs) (ht : P.underlying t = some (.struct fs)) {i : Nat} {f : Field} (hf : fs[i]? = some f) : Rw enc P W f.type ((cs.drop f.offset).take (P.cellsOf f.type)) := by
  obtain ⟨fuel, x, h, hw⟩ := h
  obtain ⟨xs, n, _, rfl, _, hl, hg⟩ := DataW.trod_struct ht h
  have hi : i < xs.length := by rw [hl]; exact (Array.getElem?_eq_some_iff.1 hf).1
  refine ⟨n, xs[i], by rw [hg i f hf, List.getElem?_eq_getElem hi], fun m hm => hw m ?_⟩
  simp only [DataW.weights, ht]
  refine DataW.weights_mem_each (j := i) (t := f.type) (d := xs[i].1) ?_ ?_ m hm
  · rw [List.getElem?_map, Array.getElem?_toList, hf]; rfl
  · rw [List.getElem?_map, List.getElem?_eq_getElem hi]; rfl
theorem Rw.int64 (h : Rw enc P W t cs) (ht : P.underlying t = some (.int .i64)) : ∃ n : Int, cs = [.int .i64 n] ∧ -9223372036854775808 ≤ n ∧ n ≤ 9223372036854775807 := by
  obtain ⟨n, h1, h2⟩ := h.rd.int ht
  have : IntKind.i64.min ≤ n ∧ n ≤ IntKind.i64.max := by simpa [Lit.wf] using h2
  exact ⟨n, h1, this⟩
theorem Rw.int8 (h : Rw enc P W t cs) (ht : P.underlying t = some (.int .u8)) : ∃ n : Int, cs = [.int .u8 n] ∧ 0 ≤ n ∧ n ≤ 255 := by
  obtain ⟨n, h1, h2⟩ := h.rd.int ht
  have : IntKind.u8.min ≤ n ∧ n ≤ IntKind.u8.max := by simpa [Lit.wf] using h2
  exact ⟨n, h1, this⟩
theorem Rw.bool (h : Rw enc P W t cs) (ht : P.underlying t = some .bool) : ∃ b, cs = [.bool b] := h.rd.bool ht
theorem Rw.str (h : Rw enc P W t cs) (ht : P.underlying t = some .string) : ∃ s : ByteArray, cs = [.string s] ∧ s.size ≤ 140737488351232 := by
  obtain ⟨fuel, x, h, hw⟩ := h
  obtain ⟨s, h1, rfl, _⟩ := DataW.trod_string ht h
  refine ⟨s, h1, ?_⟩
  have := hw s.data.toList.length (by simp [DataW.weights])
  simpa [reachBytes] using this
/-- A slice that was read: its elements. -/
theorem Rw.slice {e : TypeId} (h : Rw enc P W t cs) (ht : P.underlying t = some (.slice e)) (hp : 0 < P.cellsOf e) : ∃ (p : Option Addr) (n c : Nat), cs = [.slice p n c] ∧ n ≤ c ∧ c * P.bytesOf e ≤ 140737488351232 ∧ c ≤ 9223372036854775807 ∧
    ∀ i, i < n → ∃ (b o : Nat) (cs' : List Value), p = some ⟨b, o, none⟩ ∧ cs'.length = P.cellsOf e ∧ (∀ j v, cs'[j]? = some v → W.cell? ⟨b, o + i * P.cellsOf e + j, none⟩ = some v) ∧ Rw enc P W e cs' := by
  obtain ⟨fuel, x, h, hw⟩ := h
  rcases open_slice ht h with ⟨h0, _⟩ | ⟨a, len, cap, m, nn, D, Pl, hcs, hb, hl, hm, hmm, rfl, hi⟩
  · exact ⟨none, 0, 0, h0, by omega, by omega, by omega, fun i hi => by omega⟩
  · have hmc : m = cap := by rw [hmm]; rfl
    have hwt := hw ((len + (m - len)) * P.bytesOf e) (by simp [DataW.weights, ht])
    rw [hmc, show len + (cap - len) = cap by omega] at hwt
    refine ⟨some a, len, cap, hcs, hl, by simpa [reachBytes] using hwt, by unfold maxLen at hm; omega, fun i hilt => ?_⟩
    obtain ⟨cs', hc, ht'⟩ := hi i (by omega)
    obtain ⟨_, hlen, hat⟩ := World.cells?_some hc
    have hspot : a.spot = none := by
      obtain ⟨cs0, hc0, _⟩ := hi 0 (by omega)
      obtain ⟨_, hl0, ha0⟩ := World.cells?_some hc0
      have h00 := ha0 0 hp
      rw [List.getElem?_eq_getElem (by omega)] at h00
      have := World.cell?_spot h00
      simpa [Addr.add] using this
    obtain ⟨b, o, sp⟩ := a
    simp only at hspot
    subst hspot
    refine ⟨b, o, cs', rfl, hlen, fun j v hj => ?_, nn, _, ht', fun k hk => hw k ?_⟩
    · have hjl : j < P.cellsOf e := by have := (List.getElem?_eq_some_iff.1 hj).1; omega
      have := hat j hjl
      rw [addr_add2, hj] at this
      exact this
    · simp only [DataW.weights, ht, List.mem_cons, List.mem_append]
      exact .inr (.inl (weightsAll_mem (List.mem_map.2 ⟨i, List.mem_range.2 hilt, rfl⟩) k hk))
/-- A slice of strings that was read. -/
theorem Rw.strs {e : TypeId} (h : Rw enc P W t cs) (ht : P.underlying t = some (.slice e)) (he : P.underlying e = some .string) (h1 : P.cellsOf e = 1) : ∃ (p : Option Addr) (zs : List ByteArray) (c : Nat), cs = [.slice p zs.length c] ∧ zs.length ≤ c ∧ c * P.bytesOf e ≤ 140737488351232 ∧ StrP W p zs ∧ ∀ z ∈ zs, z.size ≤ 140737488351232 := by
  obtain ⟨p, n, c, hcs, hnc, hcb, _, hel⟩ := h.slice ht (by omega)
  have key : ∀ i, i < n → ∃ z : ByteArray, z.size ≤ 140737488351232 ∧ ∃ b o, p = some ⟨b, o, none⟩ ∧ W.cell? ⟨b, o + i, none⟩ = some (.string z) := fun i hi => by
    obtain ⟨b, o, cs', hp, hl, hc, hr⟩ := hel i hi
    obtain ⟨z, rfl, hz⟩ := hr.str he
    have := hc 0 _ rfl
    rw [h1] at this
    exact ⟨z, hz, b, o, hp, by simpa using this⟩
  have hex : ∃ g : Nat → ByteArray, ∀ i, i < n → (g i).size ≤ 140737488351232 ∧ ∃ b o, p = some ⟨b, o, none⟩ ∧ W.cell? ⟨b, o + i, none⟩ = some (.string (g i)) := by
    refine ⟨fun i => if h : i < n then Classical.choose (key i h) else ByteArray.empty, fun i hi => ?_⟩
    simp only [hi, dif_pos]
    exact Classical.choose_spec (key i hi)
  obtain ⟨g, hg⟩ := hex
  refine ⟨p, (List.range n).map g, c, by simpa using hcs, by simpa using hnc, hcb, fun j z hj => ?_, fun z hz => ?_⟩
  · rw [List.getElem?_map] at hj
    rcases Nat.lt_or_ge j n with h | h
    · simp [h] at hj
      subst hj
      exact (hg j h).2
    · simp [h] at hj
  · obtain ⟨i, hi, rfl⟩ := List.mem_map.1 hz
    exact (hg i (List.mem_range.1 hi)).1
/-- An array of bytes that was read. -/
theorem Rw.bytes {n : Nat} {e : TypeId} (h : Rw enc P W t cs) (ht : P.underlying t = some (.array n e)) (he : P.underlying e = some (.int .u8)) (h1 : P.cellsOf e = 1) (hn : P.cellsOf t = n) : ∃ f : Nat → Int, cs = arrI .u8 f n 0 ∧ ∀ j, 0 ≤ f j ∧ f j ≤ 255 := by
  obtain ⟨fuel, x, h, _⟩ := h
  obtain ⟨xs, m, _, _, hl, hxl, hg⟩ := DataW.trod_array ht h
  rw [hn] at hl
  have key : ∀ i, i < n → ∃ z : Int, cs[i]? = some (.int .u8 z) ∧ 0 ≤ z ∧ z ≤ 255 := fun i hi => by
    have h2 := hg i hi
    rw [h1, List.getElem?_eq_getElem (by omega)] at h2
    obtain ⟨z, hz, _, hw⟩ := DataW.trod_int he h2
    refine ⟨z, ?_, ?_⟩
    · have : (cs.drop (i * 1)).take 1 = [cs[i]'(by omega)] := by
        rw [Nat.mul_one, List.drop_eq_getElem_cons (by omega)]; rfl
      rw [this] at hz
      simp at hz
      rw [List.getElem?_eq_getElem (by omega), hz]
    · have : IntKind.u8.min ≤ z ∧ z ≤ IntKind.u8.max := by simpa [Lit.wf] using hw
      exact this
  refine ⟨fun i => if h : i < n then Classical.choose (key i h) else 0, arrI_ext .u8 _ n 0 cs hl (fun j hj => ?_), fun j => ?_⟩
  · rw [Nat.zero_add]
    simp only [hj, dif_pos]
    exact (Classical.choose_spec (key j hj)).1
  · by_cases h : j < n
    · simp only [h, dif_pos]; exact (Classical.choose_spec (key j h)).2
    · simp only [h, dif_neg, not_false_iff]; omega
end

end Go.Proofs.YtcpjajjocmpkjaaDoor

/- The reference's rules and items as arguments. No condition. -/
namespace Go.Proofs.YtcpjajjocmpkjaaDoor
open Go.ChangeShapes Go.WideShapes Go.ChangeAt Go.RowKit Go.Deep
section
variable {H : Type} {enc : TypeId × Value → H} {W : World} {base : Nat} {v : Value} {d : DataW H} {ps : List MemPlace}
theorem cellsR : Tryd.prog.cellsOf 24 = 5 := by kernel_rfl
theorem cellsI : Tryd.prog.cellsOf 27 = 38 := by kernel_rfl
set_option maxRecDepth 100000 in
theorem open_R (hv : Value.okWide Tryd.prog W .any base 24 v) (h : DataW.Trod enc Tryd.prog W 0 (fun _ => true) true 24 v d ps) :
    ∃ (nb ps : ByteArray) (mb dl : Int) (p : Option Addr) (ds : List ByteArray) (c : Nat), v = .agg #[.string nb, .string ps, .int .i64 mb, .int .i64 dl, .slice p ds.length c] ∧ ds.length ≤ c ∧ StrP W p ds ∧ ∀ z ∈ ds, z.size ≤ 9223372036854775807 := by
  obtain ⟨cs, rfl, hsz⟩ := okWide_struct Tryd.underlying24 hv
  have hr := Rd.of h
  rw [cellsR] at hsz
  obtain ⟨l⟩ := cs
  match l, hsz with
  | [c0, c1, c2, c3, c4], _ =>
    have hr : Rd enc Tryd.prog W 24 [c0, c1, c2, c3, c4] := hr
    obtain ⟨s0, e0, _⟩ := Rd.str (cs := [c0]) (hr.field Tryd.underlying24 (i := 0) rfl) Tryd.underlying9
    obtain ⟨s1, e1, _⟩ := Rd.str (cs := [c1]) (hr.field Tryd.underlying24 (i := 1) rfl) Tryd.underlying9
    obtain ⟨n2, e2, _⟩ := Rd.int (cs := [c2]) (hr.field Tryd.underlying24 (i := 2) rfl) Tryd.underlying3
    obtain ⟨n3, e3, _⟩ := Rd.int (cs := [c3]) (hr.field Tryd.underlying24 (i := 3) rfl) Tryd.underlying3
    obtain ⟨p, zs, c, e4, h4⟩ := Rd.strs (cs := [c4]) (hr.field Tryd.underlying24 (i := 4) rfl) Tryd.underlying22 Tryd.underlying9 (by kernel_rfl)
    simp only [List.cons.injEq, and_true] at e0 e1 e2 e3 e4
    subst e0 e1 e2 e3 e4
    exact ⟨s0, s1, n2, n3, p, zs, c, rfl, h4⟩
theorem six {l : List Value} {a b c d e f : Value} (hl : l.length = 6) (h0 : (l.drop 0).take 1 = [a]) (h1 : (l.drop 1).take 1 = [b]) (h2 : (l.drop 2).take 1 = [c]) (h3 : (l.drop 3).take 1 = [d]) (h4 : (l.drop 4).take 1 = [e]) (h5 : (l.drop 5).take 1 = [f]) : l = [a, b, c, d, e, f] := by
  match l, hl with
  | [u0, u1, u2, u3, u4, u5], _ => simp at h0 h1 h2 h3 h4 h5; simp [h0, h1, h2, h3, h4, h5]
set_option maxRecDepth 100000 in
theorem open_I (hv : Value.okWide Tryd.prog W .any base 27 v) (h : DataW.Trod enc Tryd.prog W 0 (fun _ => true) true 27 v d ps) :
    ∃ (x : It) (q : Option Addr) (c : Nat), v = .agg (x.cells q c) ∧ x.gs.length ≤ c ∧ StrP W q x.gs ∧ (∀ z ∈ x.gs, z.size ≤ 9223372036854775807) ∧ (-9223372036854775808 ≤ x.ar ∧ x.ar ≤ 9223372036854775807) := by
  obtain ⟨cs, rfl, hsz⟩ := okWide_struct Tryd.underlying27 hv
  have hr := Rd.of h
  rw [cellsI] at hsz
  obtain ⟨l⟩ := cs
  have hl : l.length = 38 := hsz
  have hr : Rd enc Tryd.prog W 27 l := hr
  obtain ⟨f, e0⟩ := Rd.arr (cs := (l.drop 0).take 32) (hr.field Tryd.underlying27 (i := 0) rfl) Tryd.underlying25 Tryd.underlying5 (by kernel_rfl) (by kernel_rfl)
  obtain ⟨q, zs, c, e1, g1, g2, g3⟩ := Rd.strs (cs := (l.drop 32).take 1) (hr.field Tryd.underlying27 (i := 1) rfl) Tryd.underlying22 Tryd.underlying9 (by kernel_rfl)
  obtain ⟨s2, e2, _⟩ := Rd.str (cs := (l.drop 33).take 1) (hr.field Tryd.underlying27 (i := 2) rfl) Tryd.underlying9
  obtain ⟨n3, e3, _⟩ := Rd.int (cs := (l.drop 34).take 1) (hr.field Tryd.underlying27 (i := 3) rfl) Tryd.underlying3
  obtain ⟨b4, e4⟩ := Rd.bool (cs := (l.drop 35).take 1) (hr.field Tryd.underlying27 (i := 4) rfl) Tryd.underlying4
  obtain ⟨s5, e5, _⟩ := Rd.str (cs := (l.drop 36).take 1) (hr.field Tryd.underlying27 (i := 5) rfl) Tryd.underlying9
  obtain ⟨n6, e6, w6⟩ := Rd.int (cs := (l.drop 37).take 1) (hr.field Tryd.underlying27 (i := 6) rfl) Tryd.underlying3
  have hd : ∀ k, l.drop (32 + k) = (l.drop 32).drop k := fun k => by rw [List.drop_drop]
  have e7 := six (l := l.drop 32) (by simp [hl]) e1 (by rw [← hd]; exact e2) (by rw [← hd]; exact e3) (by rw [← hd]; exact e4) (by rw [← hd]; exact e5) (by rw [← hd]; exact e6)
  have hl2 : l = arrI .u8 f 32 0 ++ [Value.slice q zs.length c, Value.string s2, Value.int .i64 n3, Value.bool b4, Value.string s5, Value.int .i64 n6] := by
    rw [← List.take_append_drop 32 l, e7]
    congr 1
  refine ⟨⟨f, zs, s2, n3, b4, s5, n6⟩, q, c, by rw [hl2]; rfl, g1, g2, g3, ?_⟩
  have : IntKind.i64.min ≤ n6 ∧ n6 ≤ IntKind.i64.max := by simpa [Lit.wf] using w6
  exact this
end
end Go.Proofs.YtcpjajjocmpkjaaDoor

/- The reference's rules and items as arguments, with their sizes. No condition. -/
namespace Go.Proofs.YtcpjajjocmpkjaaDoor
open Go.ChangeShapes Go.WideShapes Go.ChangeAt Go.RowKit Go.Deep
section
variable {H : Type} {enc : TypeId × Value → H} {W : World} {base : Nat} {v : Value}
set_option maxRecDepth 100000 in
theorem openw_R (hv : Value.okWide Tryd.prog W .any base 24 v) (hr : Rw enc Tryd.prog W 24 v.cells.toList) :
    ∃ (nb ps : ByteArray) (mb dl : Int) (p : Option Addr) (ds : List ByteArray) (c : Nat), v = .agg #[.string nb, .string ps, .int .i64 mb, .int .i64 dl, .slice p ds.length c] ∧ ds.length ≤ c ∧ StrP W p ds ∧ (∀ z ∈ ds, z.size ≤ 140737488351232) := by
  obtain ⟨cs, rfl, hsz⟩ := okWide_struct Tryd.underlying24 hv
  rw [cellsR] at hsz
  obtain ⟨l⟩ := cs
  match l, hsz with
  | [c0, c1, c2, c3, c4], _ =>
    have hr : Rw enc Tryd.prog W 24 [c0, c1, c2, c3, c4] := hr
    obtain ⟨s0, e0, _⟩ := Rw.str (cs := [c0]) (hr.field Tryd.underlying24 (i := 0) rfl) Tryd.underlying9
    obtain ⟨s1, e1, _⟩ := Rw.str (cs := [c1]) (hr.field Tryd.underlying24 (i := 1) rfl) Tryd.underlying9
    obtain ⟨n2, e2, _⟩ := Rw.int64 (cs := [c2]) (hr.field Tryd.underlying24 (i := 2) rfl) Tryd.underlying3
    obtain ⟨n3, e3, _⟩ := Rw.int64 (cs := [c3]) (hr.field Tryd.underlying24 (i := 3) rfl) Tryd.underlying3
    obtain ⟨p, zs, c, e4, h4, _, h5⟩ := Rw.strs (cs := [c4]) (hr.field Tryd.underlying24 (i := 4) rfl) Tryd.underlying22 Tryd.underlying9 (by kernel_rfl)
    simp only [List.cons.injEq, and_true] at e0 e1 e2 e3 e4
    subst e0 e1 e2 e3 e4
    exact ⟨s0, s1, n2, n3, p, zs, c, rfl, h4, h5⟩
set_option maxRecDepth 100000 in
/-- The cells of an item. -/
theorem rw_I {l : List Value} (hl : l.length = 38) (hr : Rw enc Tryd.prog W 27 l) :
    ∃ (x : It) (q : Option Addr) (c : Nat), l.toArray = x.cells q c ∧ x.gs.length ≤ c ∧ StrP W q x.gs ∧ (∀ z ∈ x.gs, z.size ≤ 140737488351232) ∧ (-9223372036854775808 ≤ x.ar ∧ x.ar ≤ 9223372036854775807) ∧ (∀ j, 0 ≤ x.id j ∧ x.id j ≤ 255) := by
  obtain ⟨f, e0, hf⟩ := Rw.bytes (cs := (l.drop 0).take 32) (hr.field Tryd.underlying27 (i := 0) rfl) Tryd.underlying25 Tryd.underlying5 (by kernel_rfl) (by kernel_rfl)
  obtain ⟨q, zs, c, e1, g1, _, g2, g3⟩ := Rw.strs (cs := (l.drop 32).take 1) (hr.field Tryd.underlying27 (i := 1) rfl) Tryd.underlying22 Tryd.underlying9 (by kernel_rfl)
  obtain ⟨s2, e2, _⟩ := Rw.str (cs := (l.drop 33).take 1) (hr.field Tryd.underlying27 (i := 2) rfl) Tryd.underlying9
  obtain ⟨n3, e3, _⟩ := Rw.int64 (cs := (l.drop 34).take 1) (hr.field Tryd.underlying27 (i := 3) rfl) Tryd.underlying3
  obtain ⟨b4, e4⟩ := Rw.bool (cs := (l.drop 35).take 1) (hr.field Tryd.underlying27 (i := 4) rfl) Tryd.underlying4
  obtain ⟨s5, e5, _⟩ := Rw.str (cs := (l.drop 36).take 1) (hr.field Tryd.underlying27 (i := 5) rfl) Tryd.underlying9
  obtain ⟨n6, e6, w6⟩ := Rw.int64 (cs := (l.drop 37).take 1) (hr.field Tryd.underlying27 (i := 6) rfl) Tryd.underlying3
  have hd : ∀ k, l.drop (32 + k) = (l.drop 32).drop k := fun k => by rw [List.drop_drop]
  have e7 := six (l := l.drop 32) (by simp [hl]) e1 (by rw [← hd]; exact e2) (by rw [← hd]; exact e3) (by rw [← hd]; exact e4) (by rw [← hd]; exact e5) (by rw [← hd]; exact e6)
  have hl2 : l = arrI .u8 f 32 0 ++ [Value.slice q zs.length c, Value.string s2, Value.int .i64 n3, Value.bool b4, Value.string s5, Value.int .i64 n6] := by
    rw [← List.take_append_drop 32 l, e7]
    congr 1
  exact ⟨⟨f, zs, s2, n3, b4, s5, n6⟩, q, c, by rw [hl2]; rfl, g1, g2, g3, w6, hf⟩
set_option maxRecDepth 100000 in
theorem openw_I (hv : Value.okWide Tryd.prog W .any base 27 v) (hr : Rw enc Tryd.prog W 27 v.cells.toList) :
    ∃ (x : It) (q : Option Addr) (c : Nat), v = .agg (x.cells q c) ∧ x.gs.length ≤ c ∧ StrP W q x.gs ∧ (∀ z ∈ x.gs, z.size ≤ 140737488351232) ∧ (-9223372036854775808 ≤ x.ar ∧ x.ar ≤ 9223372036854775807) ∧ (∀ j, 0 ≤ x.id j ∧ x.id j ≤ 255) := by
  obtain ⟨cs, rfl, hsz⟩ := okWide_struct Tryd.underlying27 hv
  rw [cellsI] at hsz
  obtain ⟨l⟩ := cs
  obtain ⟨x, q, c, h1, h2⟩ := rw_I (l := l) hsz hr
  exact ⟨x, q, c, by rw [← h1], h2⟩
end
end Go.Proofs.YtcpjajjocmpkjaaDoor
