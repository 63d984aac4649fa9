/- Chapter 21: the contracts of pick, Versions, Current, Moderated, EverModerator. No condition but sizes. -/
import Derived.Test.YtkkfnlehlkiejaaGreatDoorZ09
import Derived.Test.YtkkfnlehlkiejaaGreatDoorProg
import Derived.Test.YtkkfnlehlkiejaaGreatDoorZ02
import Derived.Test.YtkkfnlehlkiejaaGreatDoorZ03
import Derived.Test.YtkkfnlehlkiejaaGreatDoorZ07
import Derived.KernelRfl
namespace Go.Proofs.YtkkfnlehlkiejaaGreatDoor
open Go.RowKit Go.Maps

theorem erase_perm {α : Type} : ∀ (l : List α) (j : Nat) (x : α), l[j]? = some x → (x :: l.eraseIdx j).Perm l
  | [], _, _, h => by simp at h
  | y :: r, 0, x, h => by
    have e : y = x := by simpa using h
    subst e; exact .refl _
  | y :: r, j + 1, x, h => by
    rw [List.eraseIdx_cons_succ]
    exact (List.Perm.swap y x _).trans ((erase_perm r j x (by simpa using h)).cons y)
theorem own_types {w : World} {b1 b2 : Nat} {e1 e2 : TypeId} {s1 s2 : Nat} {v1 v2 : Value} {n1 n2 : Nat} {x1 x2 : List Value} (h1 : w.ownsRow b1 e1 s1 v1 n1 x1) (h2 : w.ownsRow b2 e2 s2 v2 n2 x2) (he : e1 ≠ e2) {k : Nat} (k1 : v1.ownBlock = some k) (k2 : v2.ownBlock = some k) : False := by
  obtain ⟨c1, hc1⟩ := own_type h1 k1
  obtain ⟨c2, hc2⟩ := own_type h2 k2
  rw [hc1] at hc2
  simp only [Option.some.injEq, Obj.cells.injEq] at hc2
  exact he hc2.2.1
/-- The moderators of a definition, in memory of their own. -/
def MO (w : World) (B : Nat) (x : DX) : Prop := w.ownsRow B 53 16 (.slice x.p x.d.ms.length x.c) x.d.ms.length (x.d.ms.flatMap auC)
theorem MO.kp {w w' : World} {B : Nat} {x : DX} (h : MO w B x) {M : Nat → Prop} (hk : Kp M w w') (hm : ∀ k, (Value.slice x.p x.d.ms.length x.c).ownBlock = some k → ¬ M k) : MO w' B x := owns_kp h hk hm
theorem MO.k0 {w w' : World} {B : Nat} {x : DX} (h : MO w B x) (hk : K0 w w') : MO w' B x := owns_kp h hk (fun _ _ h => h)
theorem MO.row {w : World} {B : Nat} {x : DX} (h : MO w B x) : RowA auC 16 w x.p x.d.ms := RowA.own h auC_length (by decide)
theorem MO.grown {w w' : World} {B B2 : Nat} {x : DX} (h : MO w B x) {v : Value} {n : Nat} {xs : List Value} (ho : w.ownsRow B2 56 54 v n xs) (hk : Kp (fun k => v.ownBlock = some k) w w') : MO w' B x :=
  owns_kp h hk (fun _ k1 k2 => own_types h ho (by decide) k1 k2)
def accL (acc : DX → Bool) (l : List (List Int × DX)) : List Df := ((l.map (·.2)).filter acc).map (·.d)
theorem accL_perm {acc : DX → Bool} {l : List (List Int × DX)} {j : Nat} {q : List Int × DX} (hj : l[j]? = some q) : ((if acc q.2 = true then [q.2.d] else []) ++ accL acc (l.eraseIdx j)).Perm (accL acc l) := by
  have h1 := ((((erase_perm l j q hj).map (·.2)).filter acc).map (fun x : DX => x.d))
  unfold accL
  rw [List.map_cons, List.filter_cons] at h1
  by_cases h : acc q.2 = true
  · rw [if_pos h] at h1 ⊢; exact h1
  · rw [if_neg h] at h1 ⊢; exact h1
set_option maxHeartbeats 2000000 in
theorem rpick_any {w : World} {b mb : Nat} {A : List Au} {l : List (List Int × DX)} (h : Reg w b mb A l) (hl : l.length ≤ 4096) (f : FuncId) (fa fb : Array Value) (hok : okFn Tryz.prog f = true) (acc : DX → Bool)
    (hF : ∀ q ∈ l, ∀ w1, K0 w w1 → Calls Tryz.prog f (appA fa [dfV q.2] fb) w1 fun e w2 => e = .returned (.bool (acc q.2)) ∧ K0 w1 w2) :
    Calls Tryz.prog 50 #[.pointer (some ⟨b, 0, none⟩), .func (.func f) fa fb] w fun e w' => (∃ (cs : List DX) (p : Option Addr) (c : Nat), e = .returned (.slice p cs.length c) ∧ w'.ownsRow w.heap.size 56 54 (.slice p cs.length c) cs.length (cs.flatMap dfC) ∧
      (cs.map (·.d)).Perm (accL acc l) ∧ cs.Pairwise (fun x y => ¬ cfD y x < 0) ∧ ∀ x ∈ cs, MO w' w.heap.size x) ∧ K0 w w' := by
  have hmw := h.map.lt
  refine vc_rpick b f fa fb w _ ⟨some mb, h.cellM, ?_⟩
  obtain ⟨r, w1, hrun, hR, k1, gr, rlt⟩ := h.map.range (t := 96) Tryz.underlying96
  refine ⟨r, w1, hrun, .of_k0 k1, ?_⟩
  have gw1 : w.heap.size ≤ w1.heap.size := k1.size
  refine ⟨fun vs w' => ∃ (cs : List DX) (todo : List (List Int × DX)) (p : Option Addr) (c : Nat), vs = [.slice p cs.length c] ∧ RngB byA w' r mb (amap dfV todo) ∧ todo.Sublist l ∧ cs.length + todo.length ≤ l.length ∧ (cs.map (·.d) ++ accL acc todo).Perm (accL acc l) ∧
      w'.ownsRow w1.heap.size 56 54 (.slice p cs.length c) cs.length (cs.flatMap dfC) ∧ (∀ x ∈ cs, MO w' w1.heap.size x) ∧ Kp (· = r) w1 w',
    fun _ w' => leftN w' r mb, ⟨[], l, none, 0, rfl, hR, .refl _, by simp, .refl _, World.ownsRow_nil _ _ _ _, (fun x hx => by cases hx), .refl _ _⟩, ?_⟩
  rintro p0 n0 c0 w2 ⟨cs, todo, p, c, hv, hR2, hsub, hlen, hperm, ho2, hM2, k2⟩
  simp only [List.cons.injEq, Value.slice.injEq, and_true] at hv
  obtain ⟨rfl, rfl, rfl⟩ := hv
  have kw2 : K0 w w2 := k1.fresh k2 (fun j hj e => by omega)
  rcases hR2.next (P := Tryz.prog) with ⟨hnil, hnx⟩ | ⟨j, q, w3, hj, hnx, hent, hR3, k3⟩
  · have htodo : todo = [] := by
      cases todo with
      | nil => rfl
      | cons x t => simp [amap] at hnil
    subst htodo
    refine ⟨false, [], w2, hnx, .refl _ _, bsp_intro (fun h => by cases h) (fun _ => ?_)⟩
    refine ⟨(psort_any cs p0 c0 w2 ho2 (by omega)).mono fun e w3 ⟨he, cs', hp, hs, ho3, k3⟩ => ⟨he, ⟨k3.size, fun x hx => by cases hx⟩, ⟨cs', p0, c0, by rw [hp.length_eq], own_base ho3 gw1, ?_, hs, fun x hx => ?_⟩, kw2.fresh k3 (fun j hj e => by have := own_ge ho2 e; omega)⟩⟩
    · have hperm : (cs.map (fun x : DX => x.d) ++ []).Perm (accL acc l) := hperm
      rw [List.append_nil] at hperm
      exact (hp.map _).trans hperm
    · exact own_base ((hM2 x (hp.subset hx)).grown ho2 k3) gw1
  · have hj' : ((todo.map fun p => (p.1, dfV p.2)))[j]? = some q := hj
    rw [List.getElem?_map, Option.map_eq_some_iff] at hj'
    obtain ⟨q, hqj, rfl⟩ := hj'
    have hmem : q ∈ l := hsub.subset (List.mem_of_getElem? hqj)
    have hdis : l.Pairwise fun p q => p.1 ≠ q.1 := by
      have := h.map.dis
      unfold amap at this
      rw [List.pairwise_map] at this
      exact this
    have hag : aget l q.1 = some q.2 := aget_at hdis hmem
    obtain ⟨_, hqc, hqk, hqo⟩ := h.ok _ _ hag
    have hqr := (h.str _ _ hag).1
    have hqz := dchk_sz (h.ok _ _ hag).1
    have her : (amap dfV todo).eraseIdx j = amap dfV (todo.eraseIdx j) := by unfold amap; rw [map_erase']
    rw [her] at hR3
    have hjl := (List.getElem?_eq_some_iff.1 hqj).1
    have helen : (todo.eraseIdx j).length = todo.length - 1 := List.length_eraseIdx_of_lt hjl
    have hpm := accL_perm (acc := acc) hqj
    have hl2 := hR2.left
    have hlam : (amap dfV todo).length = todo.length := by simp [amap]
    have hlam3 : (amap dfV (todo.eraseIdx j)).length = todo.length - 1 := by simp [amap, helen]
    have hr3 : r < w3.heap.size := by
      have := k2.size; have := k3.size; omega
    have kw3 : K0 w w3 := kw2.fresh k3 (fun j hj e => by omega)
    have hent : EntP Tryz.prog (.pointer (some ⟨r, 0, none⟩)) (.tuple #[byA q.1, dfV q.2]) w3 := hent
    rw [hqk] at hent
    have hMr : ∀ x ∈ cs, MO w3 w1.heap.size x := fun x hx => (hM2 x hx).kp k3 (fun k hk e => by have := own_ge (hM2 x hx) hk; omega)
    refine ⟨true, _, w3, hnx, .of_kp k3 (fun y hy e => by cases hy), bsp_intro (fun _ => ?_) (fun h => by cases h)⟩
    have ho3 := owns_kp ho2 k3 (fun k hk e => by have := own_ge ho2 hk; omega)
    refine ⟨q.2.d.id, q.2.d.id, q.2.d.au, q.2.d.g, q.2.d.v, q.2.d.rm, q.2.d.md, q.2.p, q.2.d.ms.length, q.2.c, q.2.d.tx, hent, fun n4 W5 hW5 => ⟨f, fa, fb, rfl, hok, ?_⟩⟩
    have k5 : K0 w3 W5 := hW5.kk rfl
    have kw5 := kw3.trans k5
    refine ⟨(hF q hmem W5 kw5).mono fun e w6 ⟨he, k6⟩ => ⟨_, he, .of_k0 k6, bsp_intro (fun hd => ?_) (fun hd => ?_)⟩⟩
    · have kw6 := kw5.trans k6
      refine ⟨(dclone_any q.2 w6 (hqr.k0 kw6) (by omega)).mono fun e w7 ⟨⟨p', c', he, hop⟩, k7⟩ => ⟨_, _, _, _, _, _, _, _, _, _, he, .of_k0 k7, fun n7 W8 hW8 => ?_⟩⟩
      have k8 : K0 w7 W8 := hW8.kk rfl
      have k38 := ((k5.trans k6).trans k7).trans k8
      have ho8 := owns_kp ho3 k38 (fun _ _ h => h)
      have e1 : cs.length + 1 = (cs ++ [(⟨q.2.d, p', c'⟩ : DX)]).length := by simp
      have hop8 : MO W8 w1.heap.size ⟨q.2.d, p', c'⟩ := own_base (owns_kp hop k8 (fun _ _ h => h)) (by have := k2.size; have := k3.size; have := k5.size; have := k6.size; omega)
      have hb8 := hW8.cells 1 rfl
      refine ⟨w1.heap.size, cs.flatMap dfC, ho8, by omega, by omega, Nat.le_trans k2.size (Nat.le_trans k3.size k38.size), fun p9 c9 w9 ho9 hg9 _ => ⟨?_, ⟨cs ++ [⟨q.2.d, p', c'⟩], todo.eraseIdx j, p9, c9, by rw [← e1], ?_, ((List.eraseIdx_sublist _ _).trans hsub), by rw [← e1, helen]; omega, ?_, by rw [← e1, List.flatMap_append, List.flatMap_singleton]; exact ho9, fun x hx => ?_, ?_⟩, ?_⟩⟩
      · refine .of_kp (kp_grown hg9) (fun z hz => ?_)
        simp only [List.mem_cons, List.not_mem_nil, or_false] at hz
        intro e
        rw [hz] at e
        have h1 := own_lt ho3 e
        have h3 : w3.heap.size ≤ n4 := hW5.fresh 0 rfl rfl
        omega
      · refine (hR3.kp k38 (fun h => h) (fun h => h)).kp (kp_grown hg9) (fun e => ?_) (fun e => ?_)
        · have := own_ge ho8 e; have := own_lt ho8 e; omega
        · have := own_ge ho8 e; omega
      · refine List.Perm.trans ?_ hperm
        rw [List.map_append, List.append_assoc]
        refine List.Perm.append_left _ ?_
        rw [if_pos hd] at hpm
        exact hpm
      · rcases List.mem_append.1 hx with hx | hx
        · exact ((hMr x hx).k0 k38).grown ho8 (kp_grown hg9)
        · simp only [List.mem_cons, List.not_mem_nil, or_false] at hx
          subst hx
          exact hop8.grown ho8 (kp_grown hg9)
      · refine ((k2.trans k3).trans (k38.mono fun _ _ h => h.elim)).fresh (kp_grown hg9) (fun i hi e => ?_)
        have := own_ge ho8 e; omega
      · show leftN w9 r mb < leftN w2 r mb
        rw [hl2, hlam]
        have hR6 := (hR3.kp k38 (fun h => h) (fun h => h)).kp (kp_grown hg9) (fun e => by have := own_ge ho8 e; omega) (fun e => by have := own_ge ho8 e; omega)
        rw [hR6.left, hlam3]; omega
    · have k36 := k5.trans k6
      have hR5 := hR3.kp k36 (fun h => h) (fun h => h)
      refine ⟨⟨cs, todo.eraseIdx j, p0, c0, rfl, hR5, ((List.eraseIdx_sublist _ _).trans hsub), by rw [helen]; omega, ?_, owns_kp ho3 k36 (fun _ _ h => h), fun x hx => (hMr x hx).k0 k36, (k2.trans k3).trans (k36.mono fun _ _ h => h.elim)⟩, ?_⟩
      · refine List.Perm.trans ?_ hperm
        refine List.Perm.append_left _ ?_
        rw [if_neg (by rw [hd]; decide)] at hpm
        exact hpm
      · show leftN w6 r mb < leftN w2 r mb
        rw [hl2, hlam, hR5.left, hlam3]; omega

/-! ### Versions -/
theorem rversC_any (x : DX) (b1 : Nat) (s : ByteArray) (w : World) (hc : w.cell? ⟨b1, 0, none⟩ = some (.string s)) :
    Calls Tryz.prog 57 #[dfV x, .pointer (some ⟨b1, 0, none⟩)] w fun e w' => e = .returned (.bool (decide (x.d.g = s))) ∧ K0 w w' := by
  refine vc_rversC x.d.id x.d.au x.d.g x.d.v x.d.rm x.d.md x.p x.d.ms.length x.c x.d.tx b1 0 w _ (fun n1 => ⟨s, fun W hW => (hW.kk rfl : K0 w W).cell' hc (fun h => h), fun W hW => ⟨by rw [str_beq], hW.kk rfl⟩⟩)
theorem reverC_any (x : DX) (b1 b2 : Nat) (s : ByteArray) (a : Nat → Int) (w : World) (hc : w.cell? ⟨b1, 0, none⟩ = some (.string s)) (ha : AtL w b2 0 (arrI .u8 a 16 0)) (hR : RowA auC 16 w x.p x.d.ms) (ho : x.d.OK) (hb : BY a) (hl : x.d.ms.length ≤ 4611686018427387904) :
    Calls Tryz.prog 51 #[dfV x, .pointer (some ⟨b1, 0, none⟩), .pointer (some ⟨b2, 0, none⟩)] w fun e w' => e = .returned (.bool (decide (x.d.g = s) && decide (auI a ∈ x.d.ms.map auI))) ∧ K0 w w' := by
  refine vc_reverC x.d.id x.d.au x.d.g x.d.v x.d.rm x.d.md x.p x.d.ms.length x.c x.d.tx b1 0 b2 0 w _ (fun n1 => ⟨s, fun W hW => (hW.kk rfl : K0 w W).cell' hc (fun h => h), x.p, x.d.ms.length, x.c, gimp_intro fun _ W hW => cell_at (hW.cells 0 rfl) rfl, a, gimp_intro fun _ W hW => ha.k0 (hW.kk rfl), fun W hW => ?_⟩)
  have kW : K0 w W := hW.kk rfl
  rw [str_beq]
  refine bsp_intro (fun h => ?_) (fun h => ?_)
  · rw [h]
    exact ⟨(acont_any x.d.ms x.p x.c a W (hR.k0 kW) ho.ms hb hl).mono fun e w1 ⟨he, k1⟩ => ⟨_, he, .of_k0 k1, rfl, kW.trans k1⟩⟩
  · rw [h]
    exact ⟨.refl _ _, rfl, kW⟩
/-- The definitions of a group, in the order in which they prevail. -/
def VerL (l : List (List Int × DX)) (s : ByteArray) (cs : List DX) : Prop := (cs.map (·.d)).Perm (accL (fun x => decide (x.d.g = s)) l) ∧ cs.Pairwise (fun x y => ¬ cfD y x < 0)
theorem rvers_any {w : World} {b mb : Nat} {A : List Au} {l : List (List Int × DX)} (h : Reg w b mb A l) (hl : l.length ≤ 4096) (s : ByteArray) :
    Calls Tryz.prog 31 #[.pointer (some ⟨b, 0, none⟩), .string s] w fun e w' => (∃ (cs : List DX) (p : Option Addr) (c : Nat), e = .returned (.slice p cs.length c) ∧ w'.ownsRow w.heap.size 56 54 (.slice p cs.length c) cs.length (cs.flatMap dfC) ∧
      VerL l s cs ∧ ∀ x ∈ cs, MO w' w.heap.size x) ∧ K0 w w' := by
  refine vc_rvers b s w _ (fun n W hW => ?_)
  have kW : K0 w W := hW.kk rfl
  have hc := cell_at (o := 0) (v := .string s) (hW.cells 0 rfl) rfl
  refine ⟨(rpick_any (h.k0 kW) hl 57 #[] #[.pointer (some ⟨n, 0, none⟩)] (by kernel_rfl) (fun x => decide (x.d.g = s)) (fun q _ w1 k => rversC_any q.2 n s w1 (k.cell' hc (fun h => h)))).mono fun e w1 ⟨⟨cs, p, c, he, ho, hp, hs, hM⟩, k1⟩ => ⟨_, _, _, he, .of_k0 k1, ⟨cs, p, c, rfl, own_base ho kW.size, ⟨hp, hs⟩, fun x hx => own_base (hM x hx) kW.size⟩, kW.trans k1⟩⟩
theorem rever_any {w : World} {b mb : Nat} {A : List Au} {l : List (List Int × DX)} (h : Reg w b mb A l) (hl : l.length ≤ 4096) (s : ByteArray) (a : Nat → Int) (ha : BY a) :
    Calls Tryz.prog 20 #[.pointer (some ⟨b, 0, none⟩), .string s, .agg (arrI .u8 a 16 0).toArray] w fun e w' => e = .returned (.bool (l.any fun q => decide (q.2.d.g = s) && decide (auI a ∈ q.2.d.ms.map auI))) ∧ K0 w w' := by
  refine vc_rever b s a w _ (fun n n1 W hW => ?_)
  have kW : K0 w W := hW.kk rfl
  have hc := cell_at (o := 0) (v := .string s) (hW.cells 1 rfl) rfl
  have hat : AtL W n1 0 (arrI .u8 a 16 0) := AtL_block (hW.cells 0 rfl) rfl
  have hdis : l.Pairwise fun p q => p.1 ≠ q.1 := by
    have := h.map.dis
    unfold amap at this
    rw [List.pairwise_map] at this
    exact this
  refine ⟨(rpick_any (h.k0 kW) hl 51 #[] #[.pointer (some ⟨n, 0, none⟩), .pointer (some ⟨n1, 0, none⟩)] (by kernel_rfl) (fun x => decide (x.d.g = s) && decide (auI a ∈ x.d.ms.map auI)) (fun q hq w1 k => ?_)).mono fun e w1 ⟨⟨cs, p, c, he, ho, hp, hs, hM⟩, k1⟩ => ⟨_, _, _, he, .of_k0 k1, ?_, kW.trans k1⟩⟩
  · have hag : aget l q.1 = some q.2 := aget_at hdis hq
    have hz := dchk_sz (h.ok _ _ hag).1
    exact reverC_any q.2 n n1 s a w1 (k.cell' hc (fun h => h)) (hat.k0 k) ((h.str _ _ hag).1.k0 (kW.trans k)) (h.ok _ _ hag).2.2.2 ha (by omega)
  · have hlen := hp.length_eq
    rw [List.length_map] at hlen
    congr 2
    rw [hlen]
    unfold accL
    rw [List.length_map, Bool.eq_iff_iff, decide_eq_true_eq, List.any_eq_true]
    constructor
    · intro hpos
      have hpos : 0 < ((l.map (·.2)).filter fun x => decide (x.d.g = s) && decide (auI a ∈ x.d.ms.map auI)).length := by omega
      obtain ⟨x, hx⟩ := List.exists_mem_of_length_pos hpos
      rw [List.mem_filter] at hx
      obtain ⟨q, hq, e⟩ := List.mem_map.1 hx.1
      exact ⟨q, hq, by rw [e]; exact hx.2⟩
    · rintro ⟨q, hq, e⟩
      have : q.2 ∈ ((l.map (·.2)).filter fun x => decide (x.d.g = s) && decide (auI a ∈ x.d.ms.map auI)) := List.mem_filter.2 ⟨List.mem_map.2 ⟨q, hq, rfl⟩, e⟩
      have := List.length_pos_of_mem this
      omega
/-- What is in force. -/
def headC (cs : List DX) : Option DX := match cs with | x :: _ => if x.d.rm = true then none else some x | [] => none
theorem rcur_any {w : World} {b mb : Nat} {A : List Au} {l : List (List Int × DX)} (h : Reg w b mb A l) (hl : l.length ≤ 4096) (s : ByteArray) :
    Calls Tryz.prog 29 #[.pointer (some ⟨b, 0, none⟩), .string s] w fun e w' => (∃ cs : List DX, VerL l s cs ∧ (∀ x ∈ cs, MO w' w.heap.size x) ∧ e = .returned (.tuple #[dfV ((headC cs).getD dxz), .bool (headC cs).isSome])) ∧ K0 w w' := by
  refine vc_rcur b s w _ (fun n W hW => ?_)
  have kW : K0 w W := hW.kk rfl
  have gn : w.heap.size ≤ n := hW.fresh 0 rfl rfl
  have hnl := block_lt (hW.cells 0 rfl)
  simp only at hnl
  refine ⟨(rvers_any (h.k0 kW) hl s).mono fun e w1 ⟨⟨cs, p, c, he, ho, hV, hM⟩, k1⟩ => ⟨_, _, _, he, .of_k0 k1, ?_⟩⟩
  have k01 := kW.trans k1
  have hMw : ∀ x ∈ cs, MO w1 w.heap.size x := fun x hx => own_base (hM x hx) kW.size
  have hMn : ∀ (W2 : World), Kp (· = n) w1 W2 → ∀ x ∈ cs, MO W2 w.heap.size x := fun W2 hk x hx => own_base ((hM x hx).kp hk (fun k hk e => by have := own_ge (hM x hx) hk; omega)) kW.size
  have hKp : ∀ {T : List Blk} {W2 : World}, Loc w.heap.size T w1 W2 → (∀ x ∈ T, x.n = n) → Kp (· = n) w1 W2 := fun hL hT => hL.kp.mono fun k _ ⟨x, hx, _, e⟩ => by rw [← e]; exact hT x hx
  cases cs with
  | nil =>
    have e : (!((([] : List DX).length : Int) == 0)) = false := rfl
    rw [e]
    refine nn_off fun b1 o1 => ⟨gimp_intro fun h => (by cases h), false, gimp_intro fun h => (by cases h), bsp_intro (fun _ => fun W2 hW2 => ⟨⟨[], hV, (fun x hx => by cases hx), rfl⟩, hW2.k0 k01⟩) (fun h => by cases h)⟩
  | cons x r =>
    have hrow : RowA dfC 54 w1 p (x :: r) := RowA.own ho dfC_length (by decide)
    obtain ⟨y, b1, o1, hy, hp, hat⟩ := hrow.get (k := 0) (by simp)
    cases hy
    rw [Nat.zero_mul, Nat.add_zero] at hat
    have e : ((((x :: r).length : Nat) : Int) == 0) = false := by
      rw [List.length_cons, beq_eq_false_iff_ne]; omega
    rw [e]
    have hlt : (0 : Int) < (((x :: r).length : Nat) : Int) := by rw [List.length_cons]; omega
    refine nn_is hp ⟨gimp_intro fun _ => ⟨Int.le_refl _, hlt⟩, x.d.rm, gimp_intro fun _ => hat.cell (j := 50) rfl, bsp_intro (fun hb => fun W2 hW2 => ?_) (fun hb => nn_is hp ⟨⟨Int.le_refl _, hlt⟩, x.d.id, x.d.au, x.d.g, x.d.v, x.d.rm, x.d.md, x.p, x.d.ms.length, x.c, x.d.tx, hat, fun W2 hW2 => ?_⟩)⟩
    · have hb : x.d.rm = true := by simpa using hb
      have hh : headC (x :: r) = none := if_pos hb
      exact ⟨⟨x :: r, hV, hMn W2 (hKp hW2 (fun y hy => by simp only [List.mem_cons, List.not_mem_nil, or_false] at hy; rw [hy])), by rw [hh]; rfl⟩, hW2.k0 k01⟩
    · have hb : ¬ x.d.rm = true := by simpa using hb
      have hh : headC (x :: r) = some x := if_neg hb
      exact ⟨⟨x :: r, hV, hMn W2 (hKp hW2 (fun y hy => by simp only [List.mem_cons, List.not_mem_nil, or_false] at hy; rw [hy])), by rw [hh]; rfl⟩, hW2.k0 k01⟩
theorem rmod_any {w : World} {b mb : Nat} {A : List Au} {l : List (List Int × DX)} (h : Reg w b mb A l) (hl : l.length ≤ 4096) (s : ByteArray) :
    Calls Tryz.prog 32 #[.pointer (some ⟨b, 0, none⟩), .string s] w fun e w' => (∃ cs : List DX, VerL l s cs ∧ e = .returned (.bool ((headC cs).isSome && ((headC cs).getD dxz).d.md))) ∧ K0 w w' := by
  refine vc_rmod b s w _ ⟨(rcur_any h hl s).mono fun e w1 ⟨⟨cs, hV, hM, he⟩, k1⟩ => ⟨_, _, _, _, _, _, _, _, _, _, _, he, .of_k0 k1, fun n1 => ⟨_, gimp_intro fun _ W hW => cell_at (hW.cells 0 rfl) rfl, fun W hW => ⟨⟨cs, hV, rfl⟩, k1.trans (hW.kk rfl)⟩⟩⟩⟩

end Go.Proofs.YtkkfnlehlkiejaaGreatDoor

/- Chapter 21: the contract of New. Lists of at most 2^30 bytes; the library's variable MaxLen holds a number. -/
namespace Go.Proofs.YtkkfnlehlkiejaaGreatDoor
open Go.RowKit Go.Maps

theorem atC_one (x : Au) : ∀ u ∈ atC x, u.oneCell' = true := fun u hu => by
  unfold atC at hu
  rcases List.mem_append.1 hu with h | h
  · simp at h; subst h; rfl
  · exact arr_one x.au 16 u h
theorem auclone_any (l : List Au) (p : Option Addr) (c : Nat) (w : World) (hR : RowA atC 17 w p l) (hl : l.length ≤ 1000000) :
    Calls Tryz.prog 44 #[.slice p l.length c] w fun e w' => (∃ (p' : Option Addr) (c' : Nat), e = .returned (.slice p' l.length c') ∧ w'.ownsRow w.heap.size 94 17 (.slice p' l.length c') l.length (l.flatMap atC)) ∧ K0 w w' := by
  refine vc_auclone p l.length c w _ (bsp_intro (fun h => ?_) (fun h => fun n1 W hW => ?_))
  · obtain rfl : p = none := by simpa using h
    have := rowA_none hR
    subst this
    exact ⟨⟨none, 0, rfl, World.ownsRow_nil _ _ _ _⟩, .refl _ _⟩
  have kW : K0 w W := hW.kk rfl
  have g1 : w.heap.size ≤ n1 := hW.fresh 0 rfl rfl
  have h0 := hW.cells 0 rfl
  refine ⟨w.heap.size, [], l.flatMap atC, own_none g1 h0, by rw [len_flat atC 17 l (fun y _ => atC_length y)], src_rowA (hR.k0 kW) atC_length atC_one (by decide), by omega, by omega, kW.size, fun p' c' w' ho hg _ => ?_⟩
  rw [Nat.zero_add] at ho
  rw [Nat.zero_add]
  refine ⟨⟨(kp_grown hg).size, fun _ hx => by cases hx⟩, ⟨p', c', rfl, by simpa using ho⟩, kW.fresh (kp_grown hg) (fun j hj e => by simp only [Value.ownBlock, Option.some.injEq] at e; omega)⟩
theorem newE_step {l : List Au} {k : Nat} {x : Au} (hx : l[k]? = some x) : newE (l.drop k) k = match listR x.pt with
    | .inl _ => newE (l.drop (k + 1)) (k + 1)
    | .inr (_, e) => (k, e) := by
  have hlt := (List.getElem?_eq_some_iff.1 hx).1
  have e : l.drop k = x :: l.drop (k + 1) := by
    rw [List.drop_eq_getElem_cons hlt]
    rw [List.getElem?_eq_getElem hlt] at hx
    cases hx; rfl
  rw [e]; rfl
def ptrV (b : Nat) : Value := .pointer (some ⟨b, 0, none⟩)
set_option maxHeartbeats 2000000 in
theorem rnew_any (l : List Au) (p : Option Addr) (c : Nat) (w : World) (hR : RowA atC 17 w p l) (hb : ∀ x ∈ l, BY x.au) (hsz : ∀ x ∈ l, x.pt.size ≤ 1073741824) (hG : GW w) :
    Calls Tryz.prog 13 #[.slice p l.length c] w fun e w' => ((64 < l.length ∧ e = .returned (.tuple #[.pointer none, .int .i64 64, .int .i64 9])) ∨
      (l.length ≤ 64 ∧ (newE l 0).2 ≠ 0 ∧ e = .returned (.tuple #[.pointer none, .int .i64 ((newE l 0).1 : Nat), .int .i64 (newE l 0).2])) ∨
      (l.length ≤ 64 ∧ (newE l 0) = (0, 0) ∧ ∃ b mb : Nat, e = .returned (.tuple #[.pointer (some ⟨b, 0, none⟩), .int .i64 0, .int .i64 0]) ∧ Reg w' b mb l [] ∧ w.heap.size ≤ b ∧ w.heap.size ≤ mb)) ∧ K0 w w' := by
  refine vc_rnew p l.length c w _ (bsp_intro (fun h => ?_) (fun h => ?_))
  · exact ⟨.inl ⟨by simp at h; omega, rfl⟩, .refl _ _⟩
  have h64 : l.length ≤ 64 := by simp at h; omega
  refine ⟨(auclone_any l p c w hR (by omega)).mono fun e w1 ⟨⟨cp, cc, he, hoc⟩, k1⟩ => ⟨_, _, _, he, .of_k0 k1, fun n2 w2 hn2 => ⟨.of_k0 (hn2.kp _), fun n3 W hW => ?_⟩⟩⟩
  have k2 : K0 w1 w2 := hn2.kp _
  have g2 : w1.heap.size ≤ n2 := hn2.ge
  have hm2 : MapB Tryz.prog 52 byA w2 n2 ([] : List (List Int × Value)) := hn2.map
  have kW : K0 w2 W := hW.kk rfl
  have b3 := hW.cells 0 rfl
  have g3 : w2.heap.size ≤ n3 := hW.fresh 0 rfl rfl
  have l3 := block_lt b3
  simp only at l3
  have hn2l := hm2.lt
  have k0W := (k1.trans k2).trans kW
  have hocW := owns_kp hoc (k2.trans kW) (fun _ _ h => h)
  have hcl : ∀ g, (Value.slice cp l.length cc).ownBlock = some g → g < n3 := fun g e => by have := own_lt hoc e; omega
  refine ⟨fun vs w' => ∃ (k : Nat) (lp : Option Addr) (lc : Nat) (bs : List Nat), vs = [.int .i64 (k : Int)] ∧ k ≤ l.length ∧ newE (l.drop k) k = newE l 0 ∧ bs.length = k ∧
      w'.heap[n3]? = some (.cells #[.slice cp l.length cc, .slice lp k lc, .map (some n2)] 99 (0, 0)) ∧ w'.ownsRow W.heap.size 74 1 (.slice lp k lc) k (bs.map ptrV) ∧
      (∀ (j lb : Nat) (x : Au), bs[j]? = some lb → l[j]? = some x → ∃ es, listR x.pt = .inl es ∧ ListR (fun _ => True) w' lb x.pt es) ∧ Kp (fun j => j = n3 ∨ W.heap.size ≤ j) W w',
    fun vs _ => (match vs with | .int _ x :: _ => l.length - x.toNat | _ => 0), ⟨0, none, 0, [], rfl, by omega, rfl, rfl, b3, World.ownsRow_nil _ _ _ _, (fun j lb x h => by cases h), .refl _ _⟩, ?_⟩
  rintro x w3 ⟨k, lp, lc, bs, hv, hk, hE, hbl, hb3, hol, hL, k3⟩
  simp only [List.cons.injEq, Value.int.injEq, true_and, and_true] at hv
  subst hv
  have k03 : K0 w w3 := k0W.fresh k3 (fun j hj e => by rcases e with e | e <;> (have := k0W.size; have := k1.size; omega))
  refine bsp_intro (fun hlt => ?_) (fun hge => ?_)
  · have hlt : k < l.length := by simp at hlt; omega
    obtain ⟨x, b1, o1, hx, hp, hat⟩ := (hR.k0 k03).get hlt
    have hxm := List.mem_of_getElem? hx
    rw [newE_step hx] at hE
    rw [Int.toNat_natCast]
    refine nn_is hp ⟨⟨by omega, by omega⟩, x.pt, x.au, hat, fun n4 W4 hW4 => ?_⟩
    have k4 : K0 w3 W4 := hW4.kk rfl
    have b4 := hW4.cells 0 rfl
    have g4 : w3.heap.size ≤ n4 := hW4.fresh 0 rfl rfl
    have l4 := block_lt b4
    simp only at l4
    refine ⟨(parseList_any x.pt W4 (hsz x hxm) (hG.kp (k03.trans k4) (fun h => h))).mono fun e w5 ⟨k5, hQ⟩ => ?_⟩
    have k45 := k4.trans k5
    cases hl : listR x.pt with
    | inr oe =>
      obtain ⟨oo, ee⟩ := oe
      rw [hl] at hQ hE
      have hne := listR_err hl
      have hE : (k, ee) = newE l 0 := hE
      refine ⟨_, _, _, hQ, .of_k0 k5, bsp_intro (fun _ => ⟨.inr (.inl ⟨h64, by rw [← hE]; exact hne, by rw [← hE]⟩), k03.trans k45⟩) (fun h => absurd h (by simpa using hne))⟩
    | inl es =>
      rw [hl] at hQ hE
      obtain ⟨lb, he, hLb⟩ := hQ
      have hE : newE (l.drop (k + 1)) (k + 1) = newE l 0 := hE
      refine ⟨_, _, _, he, .of_k0 k5, bsp_intro (fun h => by cases h) (fun _ => ⟨lp, k, lc, cell_at (k45.blk hb3 (fun h => h)) rfl, fun n6 W6 hW6 => ?_⟩)⟩
      have k6 : K0 w5 W6 := hW6.kk rfl
      have k36 := k45.trans k6
      have ho6 := owns_kp hol k36 (fun _ _ h => h)
      have hb6 := k36.blk hb3 (fun h => h)
      have b6 := hW6.cells 1 rfl
      have hlb6 : ListR (fun _ => True) W6 lb x.pt es := hLb.all.kp k6 (fun _ _ _ h => h)
      refine ⟨W.heap.size, bs.map ptrV, ho6, by omega, by omega, Nat.le_trans k3.size k36.size, fun lp' lc' w7 ho7 hg7 _ => ?_⟩
      have kg := kp_grown hg7
      have hb7 := kg.blk hb6 (fun e => by have := own_ge ho6 e; omega)
      refine ⟨.of_kp kg (fun z hz e => ?_), cell_wr hb7 (by show 0 + 1 < 3; omega), fun w8 p8 => ?_⟩
      · simp only [List.mem_cons, List.not_mem_nil, or_false] at hz
        rw [hz] at e
        have := own_lt hol e
        omega
      have hb8 : w8.heap[n3]? = some (.cells #[.slice cp l.length cc, .slice lp' (k + 1) lc', .map (some n2)] 99 (0, 0)) := by rw [p8.block hb7]; rfl
      have k68 : Kp (fun j => (Value.slice lp k lc).ownBlock = some j ∨ j = n3) W6 w8 := (kg.mono fun _ _ h => .inl h).trans (p8.kp.mono fun _ _ h => .inr h)
      have hTy : ∀ j c t f, ((Value.slice lp k lc).ownBlock = some j ∨ j = n3) → W6.heap[j]? = some (.cells c t f) → t ≠ 116 ∧ t ≠ 120 ∧ t ≠ 149 ∧ t ≠ 167 := fun j c t f hj hh => by
        rcases hj with hj | rfl
        · obtain ⟨cc, hcc⟩ := own_type ho6 hj
          rw [hcc] at hh
          simp only [Option.some.injEq, Obj.cells.injEq] at hh
          rw [← hh.2.1]; decide
        · rw [hb6] at hh
          simp only [Option.some.injEq, Obj.cells.injEq] at hh
          rw [← hh.2.1]; decide
      have eb : (bs ++ [lb]).length = k + 1 := by simp [hbl]
      have k38 : Kp (fun j => j = n3 ∨ W.heap.size ≤ j) W w8 := by
        refine (k3.trans (k36.mono fun _ _ h => h.elim)).trans (k68.mono fun j hj e => ?_)
        rcases e with e | e
        · exact .inr (own_ge hol e)
        · exact .inl e
      refine ⟨.of_kp p8.kp (fun z hz e => ?_), ⟨k + 1, lp', lc', bs ++ [lb], by rw [inc64 (by omega)], hlt, hE, eb, hb8, ?_, fun j lb' y hj hy => ?_, k38⟩, by rw [inc64 (by omega)]; simp only [Int.toNat_natCast]; omega⟩
      · simp only [List.mem_cons, List.not_mem_nil, or_false] at hz
        rw [hz] at e
        have e : n4 = n3 := e
        have := k3.size
        omega
      · rw [List.map_append]
        exact owns_kp ho7 p8.kp (fun j hj e => by have := own_ge ho7 hj; have e : j = n3 := e; omega)
      · rcases Nat.lt_or_ge j bs.length with hjl | hjl
        · rw [List.getElem?_append_left hjl] at hj
          obtain ⟨es', h1, h2⟩ := hL j lb' y hj hy
          exact ⟨es', h1, (h2.kp k36 (fun _ _ _ h => h)).kpT k68 hTy⟩
        · rw [List.getElem?_append_right hjl] at hj
          have hjk : j = k := by
            rcases Nat.lt_or_ge (j - bs.length) 1 with h | h
            · omega
            · rw [List.getElem?_eq_none (by simpa using h)] at hj; cases hj
          subst hjk
          rw [hx] at hy
          cases hy
          rw [show j - bs.length = 0 by omega] at hj
          simp only [List.getElem?_cons_zero, Option.some.injEq] at hj
          subst hj
          exact ⟨es, hl, hlb6.kpT k68 hTy⟩
  · have hk2 : k = l.length := by simp at hge; omega
    subst hk2
    rw [List.drop_length] at hE
    have hE : (0, 0) = newE l 0 := hE
    have hoc3 := owns_kp hocW k3 (fun j hj e => by have := hcl j hj; rcases e with e | e <;> omega)
    have hm3 : MapB Tryz.prog 52 byA w3 n2 (amap dfV []) := (hm2.kp kW (fun h => h)).kp k3 (fun e => by have := kW.size; rcases e with e | e <;> omega)
    refine ⟨.inr (.inr ⟨h64, hE.symm, n3, n2, rfl, ⟨⟨cp, cc, lp, lc, hb3, RowA.own hoc3 atC_length (by decide), fun k x hx => ?_⟩, hm3, (fun a x hx => by cases hx), (fun a x hx => by cases hx), hb⟩, by have := k1.size; have := k2.size; omega, by have := k1.size; omega⟩), k03⟩
    have hkl := (List.getElem?_eq_some_iff.1 hx).1
    obtain ⟨lb, hlb⟩ : ∃ lb, bs[k]? = some lb := ⟨_, List.getElem?_eq_getElem (by omega)⟩
    obtain ⟨es, h1, h2⟩ := hL k lb x hlb hx
    obtain ⟨g, hp, hc⟩ := own_cellL hol (i := k) (v := ptrV lb) (by rw [List.getElem?_map, hlb]; rfl)
    exact ⟨g, 0, lb, es, hp, by rw [Nat.zero_add]; exact hc, h1, h2⟩

end Go.Proofs.YtkkfnlehlkiejaaGreatDoor

/- The formulas of functions by the symbolic evaluator, and that each gives the call's contract. Written by a program (gen.py). No condition. -/
namespace Go.Proofs.YtkkfnlehlkiejaaGreatDoor
set_option maxRecDepth 100000
set_option linter.unusedVariables false

def VC_lto (id : Nat → Int) (au : Nat → Int) (g : ByteArray) (v : Int) (rm : Bool) (md : Bool) (p : Option Addr) (n : Nat) (c : Nat) (t : ByteArray) (w : World) (R : Ending → World → Prop) : Prop :=
 ∀ (n_1 n_2 : Nat) (W : World),
 Loc w.heap.size
 [Blk.mk n_2 56
 [Value.int IntKind.u8 0, Value.int IntKind.u8 0, Value.int IntKind.u8 0, Value.int IntKind.u8 0,
 Value.int IntKind.u8 0, Value.int IntKind.u8 0, Value.int IntKind.u8 0, Value.int IntKind.u8 0,
 Value.int IntKind.u8 0, Value.int IntKind.u8 0, Value.int IntKind.u8 0, Value.int IntKind.u8 0,
 Value.int IntKind.u8 0, Value.int IntKind.u8 0, Value.int IntKind.u8 0, Value.int IntKind.u8 0,
 Value.int IntKind.u8 0, Value.int IntKind.u8 0, Value.int IntKind.u8 0, Value.int IntKind.u8 0,
 Value.int IntKind.u8 0, Value.int IntKind.u8 0, Value.int IntKind.u8 0, Value.int IntKind.u8 0,
 Value.int IntKind.u8 0, Value.int IntKind.u8 0, Value.int IntKind.u8 0, Value.int IntKind.u8 0,
 Value.int IntKind.u8 0, Value.int IntKind.u8 0, Value.int IntKind.u8 0, Value.int IntKind.u8 0,
 Value.int IntKind.u8 0, Value.int IntKind.u8 0, Value.int IntKind.u8 0, Value.int IntKind.u8 0,
 Value.int IntKind.u8 0, Value.int IntKind.u8 0, Value.int IntKind.u8 0, Value.int IntKind.u8 0,
 Value.int IntKind.u8 0, Value.int IntKind.u8 0, Value.int IntKind.u8 0, Value.int IntKind.u8 0,
 Value.int IntKind.u8 0, Value.int IntKind.u8 0, Value.int IntKind.u8 0, Value.int IntKind.u8 0,
 Value.string (ByteArray.mk #[]), Value.int IntKind.i64 0, Value.bool false, Value.bool false,
 Value.slice none 0 0, Value.string (ByteArray.mk #[])]
 2,
 Blk.mk n_1 50
 (arrI IntKind.u8 id 32 0 ++ (arrI IntKind.u8 au 16 0 ++ [Value.string g,
 Value.int IntKind.i64 v, Value.bool rm, Value.bool md, Value.slice p n c, Value.string t]))
 2]
 w W →
 ∃ (S : World → Prop),
 S W ∧
 ∃ (f : Nat → Int),
 (∀ (w' : World),
 S w' →
 AtL w' n_1 0
 (arrI IntKind.u8 f 32 0)) ∧
 ∃ (f_1 : Nat → Int),
 (∀ (w' : World),
 S w' →
 AtL w' n_1 (0 + 32)
 (arrI IntKind.u8 f_1 16 0)) ∧
 ∃ (x : ByteArray),
 (∀ (w' : World), S w' → w'.cell? (Addr.mk n_1 (0 + 48) none) = some (Value.string x)) ∧
 ∃ (x_1 : ByteArray),
 (∀ (w' : World), S w' → w'.cell? (Addr.mk n_1 (0 + 48) none) = some (Value.string x_1)) ∧
 ((0 ≤ if 100 < (↑x_1.size : Int) then 100 else (↑x_1.size : Int)) ∧
 (if 100 < (↑x_1.size : Int) then 100 else (↑x_1.size : Int)) ≤ (↑x.size : Int)) ∧
 ∃ (x_2 : Int),
 (∀ (w' : World), S w' → w'.cell? (Addr.mk n_1 (0 + 49) none) = some (Value.int IntKind.i64 x_2)) ∧
 ∃ (x_3 : Bool),
 (∀ (w' : World), S w' → w'.cell? (Addr.mk n_1 (0 + 50) none) = some (Value.bool x_3)) ∧
 ∃ (x_4 : Bool),
 (∀ (w' : World), S w' → w'.cell? (Addr.mk n_1 (0 + 51) none) = some (Value.bool x_4)) ∧
 ∃ (x_5 : ByteArray),
 (∀ (w' : World), S w' → w'.cell? (Addr.mk n_1 (0 + 53) none) = some (Value.string x_5)) ∧
 ∃ (x_6 : ByteArray),
 (∀ (w' : World), S w' → w'.cell? (Addr.mk n_1 (0 + 53) none) = some (Value.string x_6)) ∧
 ((0 ≤ if 220 < (↑x_6.size : Int) then 220 else (↑x_6.size : Int)) ∧
 (if 220 < (↑x_6.size : Int) then 220 else (↑x_6.size : Int)) ≤ (↑x_5.size : Int)) ∧
 ∀ (n_3 : Nat) (w1 : World),
 NewB W
 (Obj.cells
 #[Value.int IntKind.u8 0, Value.int IntKind.u8 0, Value.int IntKind.u8 0,
 Value.int IntKind.u8 0, Value.int IntKind.u8 0, Value.int IntKind.u8 0,
 Value.int IntKind.u8 0, Value.int IntKind.u8 0, Value.int IntKind.u8 0,
 Value.int IntKind.u8 0, Value.int IntKind.u8 0, Value.int IntKind.u8 0,
 Value.int IntKind.u8 0, Value.int IntKind.u8 0, Value.int IntKind.u8 0,
 Value.int IntKind.u8 0, Value.int IntKind.u8 0, Value.int IntKind.u8 0,
 Value.int IntKind.u8 0, Value.int IntKind.u8 0, Value.int IntKind.u8 0,
 Value.int IntKind.u8 0, Value.int IntKind.u8 0, Value.int IntKind.u8 0,
 Value.int IntKind.u8 0, Value.int IntKind.u8 0, Value.int IntKind.u8 0,
 Value.int IntKind.u8 0, Value.int IntKind.u8 0, Value.int IntKind.u8 0,
 Value.int IntKind.u8 0, Value.int IntKind.u8 0, Value.int IntKind.u8 0,
 Value.int IntKind.u8 0, Value.int IntKind.u8 0, Value.int IntKind.u8 0,
 Value.int IntKind.u8 0, Value.int IntKind.u8 0, Value.int IntKind.u8 0,
 Value.int IntKind.u8 0, Value.int IntKind.u8 0, Value.int IntKind.u8 0,
 Value.int IntKind.u8 0, Value.int IntKind.u8 0, Value.int IntKind.u8 0,
 Value.int IntKind.u8 0, Value.int IntKind.u8 0, Value.int IntKind.u8 0,
 Value.string (ByteArray.mk #[]), Value.int IntKind.i64 0, Value.bool false,
 Value.bool false, Value.slice none 0 0, Value.string (ByteArray.mk #[])]
 56)
 n_3 w1 →
 S w1 ∧
 WrL w1 n_3 0 54 ∧
 ∀ (w1_1 : World),
 PutB w1 n_3 0
 (arrI IntKind.u8 f 32 0 ++ (arrI IntKind.u8 f_1 16 0 ++ [Value.string
 (x.extract 0 (if 100 < (↑x_1.size : Int) then 100 else (↑x_1.size : Int)).toNat),
 Value.int IntKind.i64 x_2, Value.bool x_3, Value.bool x_4, Value.slice none 0 0,
 Value.string
 (x_5.extract 0 (if 220 < (↑x_6.size : Int) then 220 else (↑x_6.size : Int)).toNat)]))
 w1_1 →
 KeptL [n_2, n_1] W w1_1 ∧
 ∃ (I : List Value → World → Prop),
 ∃ (m : List Value → World → Nat),
 I [Value.int IntKind.i64 0] w1_1 ∧
 ∀ (x : Int) (w' : World),
 I [Value.int IntKind.i64 x] w' →
 Loc w.heap.size
 [Blk.mk n_2 56
 [Value.int IntKind.u8 0, Value.int IntKind.u8 0, Value.int IntKind.u8 0,
 Value.int IntKind.u8 0, Value.int IntKind.u8 0, Value.int IntKind.u8 0,
 Value.int IntKind.u8 0, Value.int IntKind.u8 0, Value.int IntKind.u8 0,
 Value.int IntKind.u8 0, Value.int IntKind.u8 0, Value.int IntKind.u8 0,
 Value.int IntKind.u8 0, Value.int IntKind.u8 0, Value.int IntKind.u8 0,
 Value.int IntKind.u8 0, Value.int IntKind.u8 0, Value.int IntKind.u8 0,
 Value.int IntKind.u8 0, Value.int IntKind.u8 0, Value.int IntKind.u8 0,
 Value.int IntKind.u8 0, Value.int IntKind.u8 0, Value.int IntKind.u8 0,
 Value.int IntKind.u8 0, Value.int IntKind.u8 0, Value.int IntKind.u8 0,
 Value.int IntKind.u8 0, Value.int IntKind.u8 0, Value.int IntKind.u8 0,
 Value.int IntKind.u8 0, Value.int IntKind.u8 0, Value.int IntKind.u8 0,
 Value.int IntKind.u8 0, Value.int IntKind.u8 0, Value.int IntKind.u8 0,
 Value.int IntKind.u8 0, Value.int IntKind.u8 0, Value.int IntKind.u8 0,
 Value.int IntKind.u8 0, Value.int IntKind.u8 0, Value.int IntKind.u8 0,
 Value.int IntKind.u8 0, Value.int IntKind.u8 0, Value.int IntKind.u8 0,
 Value.int IntKind.u8 0, Value.int IntKind.u8 0, Value.int IntKind.u8 0,
 Value.string (ByteArray.mk #[]), Value.int IntKind.i64 0, Value.bool false,
 Value.bool false, Value.slice none 0 0, Value.string (ByteArray.mk #[])]
 0,
 Blk.mk n_1 50
 (arrI IntKind.u8 id 32 0 ++ (arrI IntKind.u8 au 16 0 ++ [Value.string g,
 Value.int IntKind.i64 v, Value.bool rm, Value.bool md, Value.slice p n c,
 Value.string t]))
 0]
 w' w' →
 bsp (decide (x < (↑n : Int)) && decide (x < 10))
 (∀ (W : World),
 Loc w.heap.size
 [Blk.mk n_2 56
 [Value.int IntKind.u8 0, Value.int IntKind.u8 0, Value.int IntKind.u8 0,
 Value.int IntKind.u8 0, Value.int IntKind.u8 0, Value.int IntKind.u8 0,
 Value.int IntKind.u8 0, Value.int IntKind.u8 0, Value.int IntKind.u8 0,
 Value.int IntKind.u8 0, Value.int IntKind.u8 0, Value.int IntKind.u8 0,
 Value.int IntKind.u8 0, Value.int IntKind.u8 0, Value.int IntKind.u8 0,
 Value.int IntKind.u8 0, Value.int IntKind.u8 0, Value.int IntKind.u8 0,
 Value.int IntKind.u8 0, Value.int IntKind.u8 0, Value.int IntKind.u8 0,
 Value.int IntKind.u8 0, Value.int IntKind.u8 0, Value.int IntKind.u8 0,
 Value.int IntKind.u8 0, Value.int IntKind.u8 0, Value.int IntKind.u8 0,
 Value.int IntKind.u8 0, Value.int IntKind.u8 0, Value.int IntKind.u8 0,
 Value.int IntKind.u8 0, Value.int IntKind.u8 0, Value.int IntKind.u8 0,
 Value.int IntKind.u8 0, Value.int IntKind.u8 0, Value.int IntKind.u8 0,
 Value.int IntKind.u8 0, Value.int IntKind.u8 0, Value.int IntKind.u8 0,
 Value.int IntKind.u8 0, Value.int IntKind.u8 0, Value.int IntKind.u8 0,
 Value.int IntKind.u8 0, Value.int IntKind.u8 0, Value.int IntKind.u8 0,
 Value.int IntKind.u8 0, Value.int IntKind.u8 0, Value.int IntKind.u8 0,
 Value.string (ByteArray.mk #[]), Value.int IntKind.i64 0, Value.bool false,
 Value.bool false, Value.slice none 0 0, Value.string (ByteArray.mk #[])]
 0,
 Blk.mk n_1 50
 (arrI IntKind.u8 id 32 0 ++ (arrI IntKind.u8 au 16 0 ++ [Value.string g,
 Value.int IntKind.i64 v, Value.bool rm, Value.bool md, Value.slice p n c,
 Value.string t]))
 0]
 w' W →
 ∃ (S : World → Prop),
 S W ∧
 ∃ (p : Option Addr),
 ∃ (n : Nat),
 ∃ (c : Nat),
 (∀ (w' : World),
 S w' → w'.cell? (Addr.mk n_3 (0 + 52) none) = some (Value.slice p n c)) ∧
 ∃ (p_1 : Option Addr),
 ∃ (n_4 : Nat),
 ∃ (c_1 : Nat),
 (∀ (w' : World),
 S w' →
 w'.cell? (Addr.mk n_1 (0 + 52) none) =
 some (Value.slice p_1 n_4 c_1)) ∧
 nn true p_1 fun (b o : Nat) =>
 (0 ≤ x ∧ x < (↑n_4 : Int)) ∧
 ∃ (f : Nat → Int),
 (∀ (w' : World),
 S w' →
 AtL w' b (o + x.toNat * 16)
 (arrI IntKind.u8 f 16 0)) ∧
 ∀ (n_5 : Nat) (w1 : World),
 NewB W
 (Obj.cells
 (arrI IntKind.u8 f 16 0).toArray
 53)
 n_5 w1 →
 S w1 ∧
 ∃ (base : Nat),
 ∃ (xs : List Value),
 ∃ (news : List Value),
 w1.ownsRow base 53 16 (Value.slice p n c) n xs ∧
 news.length = 16 ∧
 SrcP w1 (some (Addr.mk n_5 0 none)) news ∧
 n + 1 ≤ 9223372036854775807 ∧
 (n + 1) * 16 ≤ 140737488355328 ∧
 base ≤ w1.heap.size ∧
 ∀ (p' : Option Addr) (c' : Nat) (w'_1 : World),
 w'_1.ownsRow base 53 16 (Value.slice p' (n + 1) c')
 (n + 1) (xs ++ news) →
 w1.grownBy w'_1 (Value.slice p n c).ownBlock →
 (n + 1 ≤ c → p' = p ∧ c' = c) →
 ((∃ (u : Value),
 w'_1.cell? (Addr.mk n_3 (0 + 52) none) =
 some u) ∧
 w'_1.frozen? (Addr.mk n_3 (0 + 52) none) =
 false) ∧
 ∀ (w1 : World),
 PutB w'_1 n_3 (0 + 52)
 [Value.slice p' (n + 1) c'] w1 →
 KeptL [n_2, n_1] W w1 ∧
 I
 [Value.int IntKind.i64
 (IntKind.i64.wrap (x + 1))]
 w1 ∧
 m
 [Value.int IntKind.i64
 (IntKind.i64.wrap (x + 1))]
 w1 <
 m [Value.int IntKind.i64 x] w')
 (∃ (f : Nat → Int),
 ∃ (f_2 : Nat → Int),
 ∃ (x : ByteArray),
 ∃ (x_7 : Int),
 ∃ (x_8 : Bool),
 ∃ (x_9 : Bool),
 ∃ (p_1 : Option Addr),
 ∃ (n_4 : Nat),
 ∃ (c_1 : Nat),
 ∃ (x_10 : ByteArray),
 AtL w' n_3 0
 (arrI IntKind.u8 f 32 0 ++ (arrI IntKind.u8 f_2 16 0 ++ [Value.string x, Value.int IntKind.i64 x_7, Value.bool x_8,
 Value.bool x_9, Value.slice p_1 n_4 c_1, Value.string x_10])) ∧
 ∀ (W : World),
 Loc w.heap.size
 [Blk.mk n_2 56
 (arrI IntKind.u8 f 32 0 ++ (arrI IntKind.u8 f_2 16 0 ++ [Value.string x, Value.int IntKind.i64 x_7, Value.bool x_8,
 Value.bool x_9, Value.slice p_1 n_4 c_1, Value.string x_10]))
 (wrM 0),
 Blk.mk n_1 50
 (arrI IntKind.u8 id 32 0 ++ (arrI IntKind.u8 au 16 0 ++ [Value.string g, Value.int IntKind.i64 v, Value.bool rm,
 Value.bool md, Value.slice p n c, Value.string t]))
 0]
 w' W →
 R
 (Ending.returned
 (Value.agg
 (arrI IntKind.u8 f 32 0 ++ (arrI IntKind.u8 f_2 16 0 ++ [Value.string x, Value.int IntKind.i64 x_7, Value.bool x_8,
 Value.bool x_9, Value.slice p_1 n_4 c_1, Value.string x_10])).toArray))
 W)
theorem vc_lto (id : Nat → Int) (au : Nat → Int) (g : ByteArray) (v : Int) (rm : Bool) (md : Bool) (p : Option Addr) (n : Nat) (c : Nat) (t : ByteArray) (w : World) (R : Ending → World → Prop) (h : VC_lto id au g v rm md p n c t w R) : Calls Tryz.prog 23 ([Value.agg
    (arrI IntKind.u8 id 32 0 ++
        (arrI IntKind.u8 au 16 0 ++
          [Value.string g, Value.int IntKind.i64 v, Value.bool rm, Value.bool md, Value.slice p n c,
            Value.string t])).toArray] : List Value).toArray w R := by
  have e : execR2 { P := Tryz.prog, loops := [(3, [(4, Ck.int IntKind.i64)])], pur := pur1, tails := [(1, 25), (5, 7)], joins := [], boxes := [] } Tryz.f23.results.toList R (Tryz.f23.body.getD .skip) (initF [Value.agg
    (arrI IntKind.u8 id 32 0 ++
        (arrI IntKind.u8 au 16 0 ++
          [Value.string g, Value.int IntKind.i64 v, Value.bool rm, Value.bool md, Value.slice p n c,
            Value.string
              t])).toArray] (Tryz.f23.ntmps - ([Value.agg
    (arrI IntKind.u8 id 32 0 ++
        (arrI IntKind.u8 au 16 0 ++
          [Value.string g, Value.int IntKind.i64 v, Value.bool rm, Value.bool md, Value.slice p n c,
            Value.string t])).toArray] : List Value).length)) w = VC_lto id au g v rm md p n c t w R := by kernel_rfl
  have hb : Tryz.f23.body = some (Tryz.f23.body.getD .skip) := by kernel_rfl
  exact calls_of_exec2' (P := Tryz.prog) (fn := Tryz.f23) (c := Tryz.f23.body.getD .skip) (args := [Value.agg
    (arrI IntKind.u8 id 32 0 ++
        (arrI IntKind.u8 au 16 0 ++
          [Value.string g, Value.int IntKind.i64 v, Value.bool rm, Value.bool md, Value.slice p n c,
            Value.string t])).toArray]) (w := w) (R := R) pur1_ok Tryz.func23 hb e h

def VC_lauths (p : Option Addr) (n : Nat) (c : Nat) (w : World) (R : Ending → World → Prop) : Prop :=
 ∃ (I : List Value → World → Prop),
 ∃ (m : List Value → World → Nat),
 I [Value.int IntKind.i64 0, Value.slice none 0 0, Value.slice none 0 0] w ∧
 ∀ (x : Int) (p_1 : Option Addr) (n_1 c : Nat) (p_2 : Option Addr) (n_2 c_1 : Nat) (w' : World),
 I [Value.int IntKind.i64 x, Value.slice p_1 n_1 c, Value.slice p_2 n_2 c_1] w' →
 bsp (decide (x < (↑n : Int)) && decide (x < 70))
 (∀ (W : World),
 Loc w.heap.size [] w' W →
 ∃ (S : World → Prop),
 S W ∧
 nn true p fun (b o : Nat) =>
 (0 ≤ x ∧ x < (↑n : Int)) ∧
 ∃ (x_1 : ByteArray),
 (∀ (w' : World), S w' → w'.cell? (Addr.mk b (o + x.toNat * 17) none) = some (Value.string x_1)) ∧
 nn true p fun (b o : Nat) =>
 (0 ≤ x ∧ x < (↑n : Int)) ∧
 ∃ (x_2 : ByteArray),
 (∀ (w' : World), S w' → w'.cell? (Addr.mk b (o + x.toNat * 17) none) = some (Value.string x_2)) ∧
 ((0 ≤ if 200 < (↑x_2.size : Int) then 200 else (↑x_2.size : Int)) ∧
 (if 200 < (↑x_2.size : Int) then 200 else (↑x_2.size : Int)) ≤ (↑x_1.size : Int)) ∧
 nn true p fun (b o : Nat) =>
 (0 ≤ x ∧ x < (↑n : Int)) ∧
 ∃ (f : Nat → Int),
 (∀ (w' : World),
 S w' →
 AtL w' b (o + x.toNat * 17 + 1)
 (arrI IntKind.u8 f 16 0)) ∧
 ∀ (n : Nat) (w1 : World),
 NewB W
 (Obj.cells
 #[Value.string (ByteArray.mk #[]), Value.int IntKind.u8 0, Value.int IntKind.u8 0,
 Value.int IntKind.u8 0, Value.int IntKind.u8 0, Value.int IntKind.u8 0,
 Value.int IntKind.u8 0, Value.int IntKind.u8 0, Value.int IntKind.u8 0,
 Value.int IntKind.u8 0, Value.int IntKind.u8 0, Value.int IntKind.u8 0,
 Value.int IntKind.u8 0, Value.int IntKind.u8 0, Value.int IntKind.u8 0,
 Value.int IntKind.u8 0, Value.int IntKind.u8 0]
 92)
 n w1 →
 S w1 ∧
 WrL w1 n 0 17 ∧
 ∀ (w1_1 : World),
 PutB w1 n 0
 ([Value.string
 (x_1.extract 0 (if 200 < (↑x_2.size : Int) then 200 else (↑x_2.size : Int)).toNat)] ++ arrI IntKind.u8 f 16 0)
 w1_1 →
 KeptL [] W w1_1 ∧
 ∃ (x_3 : ByteArray),
 w1_1.cell? (Addr.mk n 0 none) = some (Value.string x_3) ∧
 ∃ (f : Nat → Int),
 AtL w1_1 n (0 + 1)
 (arrI IntKind.u8 f 16 0) ∧
 ∀ (n_3 : Nat) (W : World),
 Loc w.heap.size
 [Blk.mk n_3 94
 ([Value.string x_3] ++ arrI IntKind.u8 f 16 0)
 2]
 w1_1 W →
 ∃ (base : Nat),
 ∃ (xs : List Value),
 W.ownsRow base 94 17 (Value.slice p_2 n_2 c_1) n_2 xs ∧
 n_2 + 1 ≤ 9223372036854775807 ∧
 (n_2 + 1) * 32 ≤ 140737488355328 ∧
 base ≤ W.heap.size ∧
 ∀ (p' : Option Addr) (c' : Nat) (w'_1 : World),
 w'_1.ownsRow base 94 17 (Value.slice p' (n_2 + 1) c') (n_2 + 1)
 (xs ++
 ([Value.string x_3] ++ arrI IntKind.u8 f 16 0)) →
 W.grownBy w'_1 (Value.slice p_2 n_2 c_1).ownBlock →
 (n_2 + 1 ≤ c_1 → p' = p_2 ∧ c' = c_1) →
 KeptL [] W w'_1 ∧
 ∃ (x_4 : ByteArray),
 ∃ (f : Nat → Int),
 AtL w'_1 n 0
 ([Value.string x_4] ++ arrI IntKind.u8 f 16 0) ∧
 ∀ (n : Nat) (W : World),
 Loc w.heap.size
 [Blk.mk n 92
 ([Value.string x_4] ++ arrI IntKind.u8 f 16 0)
 2]
 w'_1 W →
 ∃ (base : Nat),
 ∃ (xs : List Value),
 W.ownsRow base 92 17 (Value.slice p_1 n_1 c) n_1 xs ∧
 n_1 + 1 ≤ 9223372036854775807 ∧
 (n_1 + 1) * 32 ≤ 140737488355328 ∧
 base ≤ W.heap.size ∧
 ∀ (p'_1 : Option Addr) (c'_1 : Nat) (w'_2 : World),
 w'_2.ownsRow base 92 17 (Value.slice p'_1 (n_1 + 1) c'_1)
 (n_1 + 1)
 (xs ++
 ([Value.string x_4] ++ arrI IntKind.u8 f 16 0)) →
 W.grownBy w'_2 (Value.slice p_1 n_1 c).ownBlock →
 (n_1 + 1 ≤ c → p'_1 = p_1 ∧ c'_1 = c) →
 KeptL [] W w'_2 ∧
 I
 [Value.int IntKind.i64 (IntKind.i64.wrap (x + 1)),
 Value.slice p'_1 (n_1 + 1) c'_1,
 Value.slice p' (n_2 + 1) c']
 w'_2 ∧
 m
 [Value.int IntKind.i64 (IntKind.i64.wrap (x + 1)),
 Value.slice p'_1 (n_1 + 1) c'_1,
 Value.slice p' (n_2 + 1) c']
 w'_2 <
 m
 [Value.int IntKind.i64 x, Value.slice p_1 n_1 c,
 Value.slice p_2 n_2 c_1]
 w')
 (R (Ending.returned (Value.tuple #[Value.slice p_2 n_2 c_1, Value.slice p_1 n_1 c])) w')
theorem vc_lauths (p : Option Addr) (n : Nat) (c : Nat) (w : World) (R : Ending → World → Prop) (h : VC_lauths p n c w R) : Calls Tryz.prog 12 ([Value.slice
    p n c] : List Value).toArray w R := by
  have e : execR2 { P := Tryz.prog, loops := [(4, [(6, Ck.int IntKind.i64), (5, Ck.slice), (4, Ck.slice)])], pur := pur1, tails := [(6, 19)], joins := [], boxes := [] } Tryz.f12.results.toList R (Tryz.f12.body.getD .skip) (initF [Value.slice
    p n c] (Tryz.f12.ntmps - ([Value.slice p n c] : List Value).length)) w = VC_lauths p n c w R := by kernel_rfl
  have hb : Tryz.f12.body = some (Tryz.f12.body.getD .skip) := by kernel_rfl
  exact calls_of_exec2' (P := Tryz.prog) (fn := Tryz.f12) (c := Tryz.f12.body.getD .skip) (args := [Value.slice p n
    c]) (w := w) (R := R) pur1_ok Tryz.func12 hb e h

def VC_lknown (w : World) (R : Ending → World → Prop) : Prop :=
 ∀ (n n_1 n_2 : Nat) (W : World),
 Loc w.heap.size
 [Blk.mk n_2 94
 [Value.string (ByteArray.mk #[99, 111, 109, 112, 46, 42]), Value.int IntKind.u8 1, Value.int IntKind.u8 0,
 Value.int IntKind.u8 0, Value.int IntKind.u8 0, Value.int IntKind.u8 0, Value.int IntKind.u8 0,
 Value.int IntKind.u8 0, Value.int IntKind.u8 0, Value.int IntKind.u8 0, Value.int IntKind.u8 0,
 Value.int IntKind.u8 0, Value.int IntKind.u8 0, Value.int IntKind.u8 0, Value.int IntKind.u8 0,
 Value.int IntKind.u8 0, Value.int IntKind.u8 0]
 2,
 Blk.mk n_1 53
 [Value.int IntKind.u8 2, Value.int IntKind.u8 0, Value.int IntKind.u8 0, Value.int IntKind.u8 0,
 Value.int IntKind.u8 0, Value.int IntKind.u8 0, Value.int IntKind.u8 0, Value.int IntKind.u8 0,
 Value.int IntKind.u8 0, Value.int IntKind.u8 0, Value.int IntKind.u8 0, Value.int IntKind.u8 0,
 Value.int IntKind.u8 0, Value.int IntKind.u8 0, Value.int IntKind.u8 0, Value.int IntKind.u8 0]
 (wrM 2),
 Blk.mk n 53
 [Value.int IntKind.u8 1, Value.int IntKind.u8 0, Value.int IntKind.u8 0, Value.int IntKind.u8 0,
 Value.int IntKind.u8 0, Value.int IntKind.u8 0, Value.int IntKind.u8 0, Value.int IntKind.u8 0,
 Value.int IntKind.u8 0, Value.int IntKind.u8 0, Value.int IntKind.u8 0, Value.int IntKind.u8 0,
 Value.int IntKind.u8 0, Value.int IntKind.u8 0, Value.int IntKind.u8 0, Value.int IntKind.u8 0]
 (wrM 2)]
 w W →
 CallsS Tryz.prog 13 #[Value.slice (some (Addr.mk n_2 0 none)) 1 1] W fun (e : Ending) (w' : World) =>
 ∃ (x : Option Addr),
 ∃ (x_1 : Int),
 ∃ (x_2 : Int),
 e = Ending.returned (Value.tuple #[Value.pointer x, Value.int IntKind.i64 x_1, Value.int IntKind.i64 x_2]) ∧
 KeptL [n_1, n] W w' ∧
 ∀ (n_3 : Nat) (W : World),
 Loc w.heap.size
 [Blk.mk n_3 53
 [Value.int IntKind.u8 2, Value.int IntKind.u8 0, Value.int IntKind.u8 0, Value.int IntKind.u8 0,
 Value.int IntKind.u8 0, Value.int IntKind.u8 0, Value.int IntKind.u8 0, Value.int IntKind.u8 0,
 Value.int IntKind.u8 0, Value.int IntKind.u8 0, Value.int IntKind.u8 0, Value.int IntKind.u8 0,
 Value.int IntKind.u8 0, Value.int IntKind.u8 0, Value.int IntKind.u8 0, Value.int IntKind.u8 0]
 2,
 Blk.mk n_1 53
 [Value.int IntKind.u8 2, Value.int IntKind.u8 0, Value.int IntKind.u8 0, Value.int IntKind.u8 0,
 Value.int IntKind.u8 0, Value.int IntKind.u8 0, Value.int IntKind.u8 0, Value.int IntKind.u8 0,
 Value.int IntKind.u8 0, Value.int IntKind.u8 0, Value.int IntKind.u8 0, Value.int IntKind.u8 0,
 Value.int IntKind.u8 0, Value.int IntKind.u8 0, Value.int IntKind.u8 0, Value.int IntKind.u8 0]
 0,
 Blk.mk n 53
 [Value.int IntKind.u8 1, Value.int IntKind.u8 0, Value.int IntKind.u8 0, Value.int IntKind.u8 0,
 Value.int IntKind.u8 0, Value.int IntKind.u8 0, Value.int IntKind.u8 0, Value.int IntKind.u8 0,
 Value.int IntKind.u8 0, Value.int IntKind.u8 0, Value.int IntKind.u8 0, Value.int IntKind.u8 0,
 Value.int IntKind.u8 0, Value.int IntKind.u8 0, Value.int IntKind.u8 0, Value.int IntKind.u8 0]
 0]
 w' W →
 CallsS Tryz.prog 22
 #[Value.pointer x,
 Value.agg
 #[Value.int IntKind.u8 1, Value.int IntKind.u8 0, Value.int IntKind.u8 0, Value.int IntKind.u8 0,
 Value.int IntKind.u8 0, Value.int IntKind.u8 0, Value.int IntKind.u8 0, Value.int IntKind.u8 0,
 Value.int IntKind.u8 0, Value.int IntKind.u8 0, Value.int IntKind.u8 0, Value.int IntKind.u8 0,
 Value.int IntKind.u8 0, Value.int IntKind.u8 0, Value.int IntKind.u8 0, Value.int IntKind.u8 0,
 Value.int IntKind.u8 0, Value.int IntKind.u8 0, Value.int IntKind.u8 0, Value.int IntKind.u8 0,
 Value.int IntKind.u8 0, Value.int IntKind.u8 0, Value.int IntKind.u8 0, Value.int IntKind.u8 0,
 Value.int IntKind.u8 0, Value.int IntKind.u8 0, Value.int IntKind.u8 0, Value.int IntKind.u8 0,
 Value.int IntKind.u8 0, Value.int IntKind.u8 0, Value.int IntKind.u8 0, Value.int IntKind.u8 0,
 Value.int IntKind.u8 1, Value.int IntKind.u8 0, Value.int IntKind.u8 0, Value.int IntKind.u8 0,
 Value.int IntKind.u8 0, Value.int IntKind.u8 0, Value.int IntKind.u8 0, Value.int IntKind.u8 0,
 Value.int IntKind.u8 0, Value.int IntKind.u8 0, Value.int IntKind.u8 0, Value.int IntKind.u8 0,
 Value.int IntKind.u8 0, Value.int IntKind.u8 0, Value.int IntKind.u8 0, Value.int IntKind.u8 0,
 Value.string (ByteArray.mk #[99, 111, 109, 112, 46, 111, 115]), Value.int IntKind.i64 1, Value.bool false,
 Value.bool true, Value.slice (some (Addr.mk n_3 0 none)) 1 1, Value.string (ByteArray.mk #[])]]
 W fun (e : Ending) (w' : World) =>
 ∃ (x_3 : Int),
 e = Ending.returned (Value.int IntKind.i64 x_3) ∧
 KeptL [n_1, n] W w' ∧
 CallsS Tryz.prog 22
 #[Value.pointer x,
 Value.agg
 #[Value.int IntKind.u8 2, Value.int IntKind.u8 0, Value.int IntKind.u8 0, Value.int IntKind.u8 0,
 Value.int IntKind.u8 0, Value.int IntKind.u8 0, Value.int IntKind.u8 0, Value.int IntKind.u8 0,
 Value.int IntKind.u8 0, Value.int IntKind.u8 0, Value.int IntKind.u8 0, Value.int IntKind.u8 0,
 Value.int IntKind.u8 0, Value.int IntKind.u8 0, Value.int IntKind.u8 0, Value.int IntKind.u8 0,
 Value.int IntKind.u8 0, Value.int IntKind.u8 0, Value.int IntKind.u8 0, Value.int IntKind.u8 0,
 Value.int IntKind.u8 0, Value.int IntKind.u8 0, Value.int IntKind.u8 0, Value.int IntKind.u8 0,
 Value.int IntKind.u8 0, Value.int IntKind.u8 0, Value.int IntKind.u8 0, Value.int IntKind.u8 0,
 Value.int IntKind.u8 0, Value.int IntKind.u8 0, Value.int IntKind.u8 0, Value.int IntKind.u8 0,
 Value.int IntKind.u8 2, Value.int IntKind.u8 0, Value.int IntKind.u8 0, Value.int IntKind.u8 0,
 Value.int IntKind.u8 0, Value.int IntKind.u8 0, Value.int IntKind.u8 0, Value.int IntKind.u8 0,
 Value.int IntKind.u8 0, Value.int IntKind.u8 0, Value.int IntKind.u8 0, Value.int IntKind.u8 0,
 Value.int IntKind.u8 0, Value.int IntKind.u8 0, Value.int IntKind.u8 0, Value.int IntKind.u8 0,
 Value.string (ByteArray.mk #[99, 111, 109, 112, 46, 111, 115]), Value.int IntKind.i64 1,
 Value.bool false, Value.bool false, Value.slice none 0 0, Value.string (ByteArray.mk #[])]]
 w' fun (e : Ending) (w'_1 : World) =>
 ∃ (x_4 : Int),
 e = Ending.returned (Value.int IntKind.i64 x_4) ∧
 KeptL [n_1, n] w' w'_1 ∧
 CallsS Tryz.prog 22
 #[Value.pointer x,
 Value.agg
 #[Value.int IntKind.u8 3, Value.int IntKind.u8 0, Value.int IntKind.u8 0, Value.int IntKind.u8 0,
 Value.int IntKind.u8 0, Value.int IntKind.u8 0, Value.int IntKind.u8 0, Value.int IntKind.u8 0,
 Value.int IntKind.u8 0, Value.int IntKind.u8 0, Value.int IntKind.u8 0, Value.int IntKind.u8 0,
 Value.int IntKind.u8 0, Value.int IntKind.u8 0, Value.int IntKind.u8 0, Value.int IntKind.u8 0,
 Value.int IntKind.u8 0, Value.int IntKind.u8 0, Value.int IntKind.u8 0, Value.int IntKind.u8 0,
 Value.int IntKind.u8 0, Value.int IntKind.u8 0, Value.int IntKind.u8 0, Value.int IntKind.u8 0,
 Value.int IntKind.u8 0, Value.int IntKind.u8 0, Value.int IntKind.u8 0, Value.int IntKind.u8 0,
 Value.int IntKind.u8 0, Value.int IntKind.u8 0, Value.int IntKind.u8 0, Value.int IntKind.u8 0,
 Value.int IntKind.u8 1, Value.int IntKind.u8 0, Value.int IntKind.u8 0, Value.int IntKind.u8 0,
 Value.int IntKind.u8 0, Value.int IntKind.u8 0, Value.int IntKind.u8 0, Value.int IntKind.u8 0,
 Value.int IntKind.u8 0, Value.int IntKind.u8 0, Value.int IntKind.u8 0, Value.int IntKind.u8 0,
 Value.int IntKind.u8 0, Value.int IntKind.u8 0, Value.int IntKind.u8 0, Value.int IntKind.u8 0,
 Value.string (ByteArray.mk #[97, 108, 116, 46, 120]), Value.int IntKind.i64 1, Value.bool false,
 Value.bool false, Value.slice none 0 0, Value.string (ByteArray.mk #[])]]
 w'_1 fun (e : Ending) (w' : World) =>
 ∃ (x_5 : Int),
 e = Ending.returned (Value.int IntKind.i64 x_5) ∧
 KeptL [n_1, n] w'_1 w' ∧
 CallsS Tryz.prog 32
 #[Value.pointer x, Value.string (ByteArray.mk #[99, 111, 109, 112, 46, 111, 115])] w'
 fun (e : Ending) (w'_2 : World) =>
 ∃ (x_6 : Bool),
 e = Ending.returned (Value.bool x_6) ∧
 KeptL [n_1, n] w' w'_2 ∧
 CallsS Tryz.prog 22
 #[Value.pointer x,
 Value.agg
 #[Value.int IntKind.u8 9, Value.int IntKind.u8 0, Value.int IntKind.u8 0,
 Value.int IntKind.u8 0, Value.int IntKind.u8 0, Value.int IntKind.u8 0,
 Value.int IntKind.u8 0, Value.int IntKind.u8 0, Value.int IntKind.u8 0,
 Value.int IntKind.u8 0, Value.int IntKind.u8 0, Value.int IntKind.u8 0,
 Value.int IntKind.u8 0, Value.int IntKind.u8 0, Value.int IntKind.u8 0,
 Value.int IntKind.u8 0, Value.int IntKind.u8 0, Value.int IntKind.u8 0,
 Value.int IntKind.u8 0, Value.int IntKind.u8 0, Value.int IntKind.u8 0,
 Value.int IntKind.u8 0, Value.int IntKind.u8 0, Value.int IntKind.u8 0,
 Value.int IntKind.u8 0, Value.int IntKind.u8 0, Value.int IntKind.u8 0,
 Value.int IntKind.u8 0, Value.int IntKind.u8 0, Value.int IntKind.u8 0,
 Value.int IntKind.u8 0, Value.int IntKind.u8 0, Value.int IntKind.u8 1,
 Value.int IntKind.u8 0, Value.int IntKind.u8 0, Value.int IntKind.u8 0,
 Value.int IntKind.u8 0, Value.int IntKind.u8 0, Value.int IntKind.u8 0,
 Value.int IntKind.u8 0, Value.int IntKind.u8 0, Value.int IntKind.u8 0,
 Value.int IntKind.u8 0, Value.int IntKind.u8 0, Value.int IntKind.u8 0,
 Value.int IntKind.u8 0, Value.int IntKind.u8 0, Value.int IntKind.u8 0,
 Value.string (ByteArray.mk #[99, 111, 109, 112, 46, 111, 115]), Value.int IntKind.i64 2,
 Value.bool true, Value.bool false, Value.slice none 0 0, Value.string (ByteArray.mk #[])]]
 w'_2 fun (e : Ending) (w' : World) =>
 ∃ (x_7 : Int),
 e = Ending.returned (Value.int IntKind.i64 x_7) ∧
 KeptL [n_1, n] w'_2 w' ∧
 CallsS Tryz.prog 29
 #[Value.pointer x, Value.string (ByteArray.mk #[99, 111, 109, 112, 46, 111, 115])] w'
 fun (e : Ending) (w'_3 : World) =>
 ∃ (f : Nat → Int),
 ∃ (f_1 : Nat → Int),
 ∃ (x_8 : ByteArray),
 ∃ (x_9 : Int),
 ∃ (x_10 : Bool),
 ∃ (x_11 : Bool),
 ∃ (p : Option Addr),
 ∃ (n_4 : Nat),
 ∃ (c : Nat),
 ∃ (x_12 : ByteArray),
 ∃ (x_13 : Bool),
 e =
 Ending.returned
 (Value.tuple
 #[Value.agg
 (arrI IntKind.u8 f 32 0 ++ (arrI IntKind.u8 f_1 16 0 ++ [Value.string x_8, Value.int IntKind.i64 x_9, Value.bool x_10,
 Value.bool x_11, Value.slice p n_4 c, Value.string x_12])).toArray,
 Value.bool x_13]) ∧
 KeptL [n_1, n] w' w'_3 ∧
 ∀ (n_5 : Nat) (W : World),
 Loc w.heap.size
 [Blk.mk n_5 56
 (arrI IntKind.u8 f 32 0 ++ (arrI IntKind.u8 f_1 16 0 ++ [Value.string x_8, Value.int IntKind.i64 x_9, Value.bool x_10,
 Value.bool x_11, Value.slice p n_4 c, Value.string x_12]))
 (wrM 2),
 Blk.mk n_1 53
 [Value.int IntKind.u8 2, Value.int IntKind.u8 0,
 Value.int IntKind.u8 0, Value.int IntKind.u8 0,
 Value.int IntKind.u8 0, Value.int IntKind.u8 0,
 Value.int IntKind.u8 0, Value.int IntKind.u8 0,
 Value.int IntKind.u8 0, Value.int IntKind.u8 0,
 Value.int IntKind.u8 0, Value.int IntKind.u8 0,
 Value.int IntKind.u8 0, Value.int IntKind.u8 0,
 Value.int IntKind.u8 0, Value.int IntKind.u8 0]
 0,
 Blk.mk n 53
 [Value.int IntKind.u8 1, Value.int IntKind.u8 0,
 Value.int IntKind.u8 0, Value.int IntKind.u8 0,
 Value.int IntKind.u8 0, Value.int IntKind.u8 0,
 Value.int IntKind.u8 0, Value.int IntKind.u8 0,
 Value.int IntKind.u8 0, Value.int IntKind.u8 0,
 Value.int IntKind.u8 0, Value.int IntKind.u8 0,
 Value.int IntKind.u8 0, Value.int IntKind.u8 0,
 Value.int IntKind.u8 0, Value.int IntKind.u8 0]
 0]
 w'_3 W →
 CallsS Tryz.prog 22
 #[Value.pointer x,
 Value.agg
 #[Value.int IntKind.u8 8, Value.int IntKind.u8 0,
 Value.int IntKind.u8 0, Value.int IntKind.u8 0,
 Value.int IntKind.u8 0, Value.int IntKind.u8 0,
 Value.int IntKind.u8 0, Value.int IntKind.u8 0,
 Value.int IntKind.u8 0, Value.int IntKind.u8 0,
 Value.int IntKind.u8 0, Value.int IntKind.u8 0,
 Value.int IntKind.u8 0, Value.int IntKind.u8 0,
 Value.int IntKind.u8 0, Value.int IntKind.u8 0,
 Value.int IntKind.u8 0, Value.int IntKind.u8 0,
 Value.int IntKind.u8 0, Value.int IntKind.u8 0,
 Value.int IntKind.u8 0, Value.int IntKind.u8 0,
 Value.int IntKind.u8 0, Value.int IntKind.u8 0,
 Value.int IntKind.u8 0, Value.int IntKind.u8 0,
 Value.int IntKind.u8 0, Value.int IntKind.u8 0,
 Value.int IntKind.u8 0, Value.int IntKind.u8 0,
 Value.int IntKind.u8 0, Value.int IntKind.u8 0,
 Value.int IntKind.u8 1, Value.int IntKind.u8 0,
 Value.int IntKind.u8 0, Value.int IntKind.u8 0,
 Value.int IntKind.u8 0, Value.int IntKind.u8 0,
 Value.int IntKind.u8 0, Value.int IntKind.u8 0,
 Value.int IntKind.u8 0, Value.int IntKind.u8 0,
 Value.int IntKind.u8 0, Value.int IntKind.u8 0,
 Value.int IntKind.u8 0, Value.int IntKind.u8 0,
 Value.int IntKind.u8 0, Value.int IntKind.u8 0,
 Value.string (ByteArray.mk #[99, 111, 109, 112, 46, 111, 115]),
 Value.int IntKind.i64 2, Value.bool false, Value.bool false,
 Value.slice none 0 0, Value.string (ByteArray.mk #[120])]]
 W fun (e : Ending) (w' : World) =>
 ∃ (x_14 : Int),
 e = Ending.returned (Value.int IntKind.i64 x_14) ∧
 KeptL [n_5, n_1, n] W w' ∧
 CallsS Tryz.prog 29
 #[Value.pointer x,
 Value.string (ByteArray.mk #[99, 111, 109, 112, 46, 111, 115])]
 w' fun (e : Ending) (w'_4 : World) =>
 ∃ (f_2 : Nat → Int),
 ∃ (f_3 : Nat → Int),
 ∃ (x_15 : ByteArray),
 ∃ (x_16 : Int),
 ∃ (x_17 : Bool),
 ∃ (x_18 : Bool),
 ∃ (p_1 : Option Addr),
 ∃ (n_6 : Nat),
 ∃ (c_1 : Nat),
 ∃ (x_19 : ByteArray),
 ∃ (x_20 : Bool),
 e =
 Ending.returned
 (Value.tuple
 #[Value.agg
 (arrI IntKind.u8 f_2 32 0 ++ (arrI IntKind.u8 f_3 16 0 ++ [Value.string x_15,
 Value.int IntKind.i64 x_16, Value.bool x_17,
 Value.bool x_18, Value.slice p_1 n_6 c_1,
 Value.string x_19])).toArray,
 Value.bool x_20]) ∧
 KeptL [n_5, n_1, n] w' w'_4 ∧
 ∀ (n_7 : Nat),
 ∃ (x_21 : ByteArray),
 gimp
 (x_2 == 0 && x_3 == 0 && x_4 == 20 && x_5 == 20 &&
 x_6 &&
 x_7 == 0 &&
 !x_13 &&
 x_14 == 0 &&
 x_20)
 (∀ (W : World),
 Loc w.heap.size
 [Blk.mk n_7 56
 (arrI IntKind.u8 f_2 32 0 ++ (arrI IntKind.u8 f_3 16 0 ++ [Value.string x_15, Value.int IntKind.i64 x_16,
 Value.bool x_17, Value.bool x_18,
 Value.slice p_1 n_6 c_1, Value.string x_19]))
 (wrM 2),
 Blk.mk n_5 56
 (arrI IntKind.u8 f 32 0 ++ (arrI IntKind.u8 f_1 16 0 ++ [Value.string x_8, Value.int IntKind.i64 x_9,
 Value.bool x_10, Value.bool x_11,
 Value.slice p n_4 c, Value.string x_12]))
 0,
 Blk.mk n_1 53
 [Value.int IntKind.u8 2,
 Value.int IntKind.u8 0,
 Value.int IntKind.u8 0,
 Value.int IntKind.u8 0,
 Value.int IntKind.u8 0,
 Value.int IntKind.u8 0,
 Value.int IntKind.u8 0,
 Value.int IntKind.u8 0,
 Value.int IntKind.u8 0,
 Value.int IntKind.u8 0,
 Value.int IntKind.u8 0,
 Value.int IntKind.u8 0,
 Value.int IntKind.u8 0,
 Value.int IntKind.u8 0,
 Value.int IntKind.u8 0,
 Value.int IntKind.u8 0]
 0,
 Blk.mk n 53
 [Value.int IntKind.u8 1,
 Value.int IntKind.u8 0,
 Value.int IntKind.u8 0,
 Value.int IntKind.u8 0,
 Value.int IntKind.u8 0,
 Value.int IntKind.u8 0,
 Value.int IntKind.u8 0,
 Value.int IntKind.u8 0,
 Value.int IntKind.u8 0,
 Value.int IntKind.u8 0,
 Value.int IntKind.u8 0,
 Value.int IntKind.u8 0,
 Value.int IntKind.u8 0,
 Value.int IntKind.u8 0,
 Value.int IntKind.u8 0,
 Value.int IntKind.u8 0]
 0]
 w'_4 W →
 W.cell? (Addr.mk n_7 (0 + 53) none) =
 some (Value.string x_21)) ∧
 ∀ (W : World),
 Loc w.heap.size
 [Blk.mk n_7 56
 (arrI IntKind.u8 f_2 32 0 ++ (arrI IntKind.u8 f_3 16 0 ++ [Value.string x_15, Value.int IntKind.i64 x_16,
 Value.bool x_17, Value.bool x_18,
 Value.slice p_1 n_6 c_1, Value.string x_19]))
 (wrM 2),
 Blk.mk n_5 56
 (arrI IntKind.u8 f 32 0 ++ (arrI IntKind.u8 f_1 16 0 ++ [Value.string x_8, Value.int IntKind.i64 x_9,
 Value.bool x_10, Value.bool x_11,
 Value.slice p n_4 c, Value.string x_12]))
 0,
 Blk.mk n_1 53
 [Value.int IntKind.u8 2, Value.int IntKind.u8 0,
 Value.int IntKind.u8 0, Value.int IntKind.u8 0,
 Value.int IntKind.u8 0, Value.int IntKind.u8 0,
 Value.int IntKind.u8 0, Value.int IntKind.u8 0,
 Value.int IntKind.u8 0, Value.int IntKind.u8 0,
 Value.int IntKind.u8 0, Value.int IntKind.u8 0,
 Value.int IntKind.u8 0, Value.int IntKind.u8 0,
 Value.int IntKind.u8 0, Value.int IntKind.u8 0]
 0,
 Blk.mk n 53
 [Value.int IntKind.u8 1, Value.int IntKind.u8 0,
 Value.int IntKind.u8 0, Value.int IntKind.u8 0,
 Value.int IntKind.u8 0, Value.int IntKind.u8 0,
 Value.int IntKind.u8 0, Value.int IntKind.u8 0,
 Value.int IntKind.u8 0, Value.int IntKind.u8 0,
 Value.int IntKind.u8 0, Value.int IntKind.u8 0,
 Value.int IntKind.u8 0, Value.int IntKind.u8 0,
 Value.int IntKind.u8 0, Value.int IntKind.u8 0]
 0]
 w'_4 W →
 bsp
 (x_2 == 0 && x_3 == 0 && x_4 == 20 && x_5 == 20 &&
 x_6 &&
 x_7 == 0 &&
 !x_13 &&
 x_14 == 0 &&
 x_20 &&
 x_21.toList == [(ByteArray.mk #[120]).get! 0])
 (CallsS Tryz.prog 20
 #[Value.pointer x,
 Value.string
 (ByteArray.mk
 #[99, 111, 109, 112, 46, 111, 115]),
 Value.agg
 #[Value.int IntKind.u8 2,
 Value.int IntKind.u8 0,
 Value.int IntKind.u8 0,
 Value.int IntKind.u8 0,
 Value.int IntKind.u8 0,
 Value.int IntKind.u8 0,
 Value.int IntKind.u8 0,
 Value.int IntKind.u8 0,
 Value.int IntKind.u8 0,
 Value.int IntKind.u8 0,
 Value.int IntKind.u8 0,
 Value.int IntKind.u8 0,
 Value.int IntKind.u8 0,
 Value.int IntKind.u8 0,
 Value.int IntKind.u8 0,
 Value.int IntKind.u8 0]]
 W fun (e : Ending) (w' : World) =>
 ∃ (x_22 : Bool),
 e = Ending.returned (Value.bool x_22) ∧
 KeptL [n_7, n_5, n_1, n] W w' ∧
 bsp (true && x_22)
 (CallsS Tryz.prog 19 #[Value.pointer x] w'
 fun (e : Ending) (w'_5 : World) =>
 ∃ (x : Int),
 e =
 Ending.returned
 (Value.int IntKind.i64 x) ∧
 KeptL [n_7, n_5, n_1, n] w' w'_5 ∧
 R
 (Ending.returned
 (Value.bool (true && x == 3)))
 w'_5)
 (KeptL [n_7, n_5, n_1, n] w' w' ∧
 R (Ending.returned (Value.bool false)) w'))
 (KeptL [n_7, n_5, n_1, n] W W ∧
 KeptL [n_7, n_5, n_1, n] W W ∧
 R (Ending.returned (Value.bool false)) W)
theorem vc_lknown (w : World) (R : Ending → World → Prop) (h : VC_lknown w R) : Calls Tryz.prog 15 ([] : List Value).toArray w R := by
  have e : execR2 { P := Tryz.prog, loops := [], pur := pur1, tails := [], joins := [], boxes := [] } Tryz.f15.results.toList R (Tryz.f15.body.getD .skip) (initF [] (Tryz.f15.ntmps - ([] : List Value).length)) w = VC_lknown w R := by kernel_rfl
  have hb : Tryz.f15.body = some (Tryz.f15.body.getD .skip) := by kernel_rfl
  exact calls_of_exec2' (P := Tryz.prog) (fn := Tryz.f15) (c := Tryz.f15.body.getD .skip) (args := []) (w := w) (R := R) pur1_ok Tryz.func15 hb e h

end Go.Proofs.YtkkfnlehlkiejaaGreatDoor
