/- Sorting of a row whose elements are one cell: the world behind slices.SortFunc. Generic: no program, no condition. -/
import Derived.Test.YtgmmoghagpmpfaaGreatDoorZ05
import Derived.Shelf.SlSortCmp.Kit1
import Derived.Sort.Grow
import Derived.Test.YtgmmoghagpmpfaaGreatDoorZ08
import Derived.Test.YtgmmoghagpmpfaaGreatDoorZ06
import Derived.Test.YtgmmoghagpmpfaaGreatDoorProg
import Derived.Test.YtgmmoghagpmpfaaGreatDoorZ02
import Derived.Test.YtgmmoghagpmpfaaGreatDoorZ04
import Derived.KernelRfl
import Derived.Test.YtgmmoghagpmpfaaGreatDoorZ09
namespace Go.Proofs.YtgmmoghagpmpfaaGreatDoor
open Go.RowKit Go.Sort

theorem grow_of1 {w w' : World} (h : K0 w w') (hd : w.drawn ≤ w'.drawn) : ∃ q os', w' = grow (w.drewN q) os' := by
  refine ⟨w'.drawn - w.drawn, w'.heap.extract w.heap.size w'.heap.size, ?_⟩
  have hh : w'.heap = w.heap ++ w'.heap.extract w.heap.size w'.heap.size := by
    apply Array.ext_getElem?
    intro i
    rw [Array.getElem?_append]
    split
    · rename_i hi; exact h.block i hi (fun h => h)
    · rename_i hi
      rw [Array.getElem?_extract]
      have := h.size
      by_cases hl : i < w'.heap.size
      · rw [if_pos (by omega)]; congr 1; omega
      · rw [if_neg (by omega)]; exact Array.getElem?_eq_none (by omega)
  have h1 := h.os
  have h2 := h.tape
  have h3 := h.output
  obtain ⟨hp, tp, dr, os, out⟩ := w
  obtain ⟨hp', tp', dr', os', out'⟩ := w'
  simp only at hh h1 h2 h3 hd
  subst h1 h2 h3
  simp only [grow, World.drewN]
  congr 1
  omega

theorem sort1_kp {α : Type} [Inhabited α] (enc : α → Value) (w : World) (blk off m : Nat) (dk : Array α) (os : Array Obj) : Kp (· = blk) w (sortWorld enc w blk off m dk os) := by
  have hs : (sortWorld enc w blk off m dk os).heap = ((Sort.ahead w m).heap.modify blk (onCells (putCells enc off dk))) ++ os := rfl
  refine ⟨rfl, rfl, rfl, by rw [hs, Array.size_append, Array.size_modify]; show w.heap.size ≤ w.heap.size + _; omega, fun i hi hne => ?_⟩
  rw [hs, Array.getElem?_append_left (by simpa [Sort.ahead] using hi), Array.getElem?_modify, if_neg (fun e => hne e.symm)]
  rfl
theorem sort1_blk {α : Type} [Inhabited α] (enc : α → Value) (w : World) (blk off m : Nat) (dk : Array α) (os : Array Obj) {cur : Array Value} {t : TypeId} (h : w.heap[blk]? = some (.cells cur t (0, 0))) : ∃ cur' : Array Value, cur'.size = cur.size ∧ (sortWorld enc w blk off m dk os).heap[blk]? = some (.cells cur' t (0, 0)) := by
  have hlt := block_lt h
  refine ⟨putCells enc off dk cur, by simp [putCells], ?_⟩
  show (((Sort.ahead w m).heap.modify blk (onCells (putCells enc off dk))) ++ os)[blk]? = _
  rw [Array.getElem?_append_left (by simpa [Sort.ahead] using hlt), Array.getElem?_modify, if_pos rfl]
  have e : (Sort.ahead w m).heap[blk]? = w.heap[blk]? := rfl
  rw [e, h]
  rfl
/-- A row of one-cell elements, opened. -/
theorem own_holds {α : Type} [Inhabited α] (enc : α → Value) {w : World} {base : Nat} {t : TypeId} {p : Option Addr} {c : Nat} {cs : List α} (ho : w.ownsRow base t 1 (.slice p cs.length c) cs.length (cs.map enc)) (h0 : 0 < cs.length) :
    ∃ (g : Nat) (cur : Array Value), p = some ⟨g, 0, none⟩ ∧ base ≤ g ∧ w.heap[g]? = some (.cells cur t (0, 0)) ∧ cs.length ≤ c ∧ c ≤ maxLen ∧ cur.size = c * 1 ∧ Holds enc w g 0 cs.toArray := by
  rcases ho.2 with ⟨_, hz⟩ | ⟨g, cap, cur, he, hbase, hg, hcap, hmax, hcs, htk⟩
  · omega
  simp only [Value.slice.injEq, true_and] at he
  obtain ⟨rfl, rfl⟩ := he
  refine ⟨g, cur, rfl, hbase, hg, hcap, hmax, hcs, fun j hj => ⟨?_, frozen_block hg _⟩⟩
  have hj' : j < cs.length := by simpa using hj
  rw [Nat.zero_add, cell_block hg]
  have e : (cur.toList.take (cs.length * 1))[j]? = some (enc cs[j]) := by rw [htk, List.getElem?_map, List.getElem?_eq_getElem hj']; rfl
  rw [List.getElem?_take, if_pos (by omega), Array.getElem?_toList] at e
  rw [e, getElem!_pos cs.toArray j hj]
  simp
/-- The row behind the sort. -/
theorem sort1_post {α : Type} [Inhabited α] (enc : α → Value) {w : World} {base g c : Nat} {t : TypeId} {cur : Array Value} {cs : List α} (hb : base ≤ g) (hg : w.heap[g]? = some (.cells cur t (0, 0))) (hcap : cs.length ≤ c) (hmax : c ≤ maxLen) (hcs : cur.size = c * 1) (hH : Holds enc w g 0 cs.toArray)
    {d : Array α} {m : Nat} {os : Array Obj} (hp : PermIn 0 cs.toArray.size cs.toArray d) :
    d.toList.Perm cs ∧ (sortWorld enc w g 0 m d os).ownsRow base t 1 (.slice (some ⟨g, 0, none⟩) d.toList.length c) d.toList.length (d.toList.map enc) := by
  have hs1 : d.size = cs.length := by simpa using hp.1
  have hp' : d.toList.Perm cs := by
    have h1 := hp.1
    have h2 := hp.2.2
    rw [show d.extract 0 cs.toArray.size = d from by rw [← h1]; exact Array.extract_size] at h2
    rw [show cs.toArray.extract 0 cs.toArray.size = cs.toArray from Array.extract_size] at h2
    exact h2
  refine ⟨hp', ?_⟩
  have hlen : d.toList.length = cs.length := hp'.length_eq
  obtain ⟨cur', hc1, hc2⟩ := sort1_blk enc w g 0 m d os hg
  refine ⟨by simp, .inr ⟨g, c, cur', rfl, hb, hc2, by omega, hmax, by rw [hc1, hcs], ?_⟩⟩
  have hHo := holds_sortWorld enc w g 0 m cs.toArray d os (block_lt hg) hH hp.1
  apply List.ext_getElem?
  intro j
  rw [List.getElem?_take]
  rcases Nat.lt_or_ge j d.toList.length with ht | ht
  · rw [if_pos (by omega)]
    have h1 := (hHo j (by simpa using ht)).1
    rw [Nat.zero_add, cell_block hc2, getElem!_pos d j (by simpa using ht)] at h1
    rw [Array.getElem?_toList, h1, List.getElem?_map, List.getElem?_eq_getElem ht]
    simp
  · rw [if_neg (by omega), List.getElem?_eq_none (by simpa using ht)]
theorem sorted_pw {α : Type} [Inhabited α] {lt : α → α → Bool} {d : Array α} {n : Nat} (hn : d.size = n) (h : SortedIn lt 0 n d) : d.toList.Pairwise fun x y => lt y x = false := by
  rw [List.pairwise_iff_getElem]
  intro i j hi hj hij
  have := h i j (Nat.zero_le _) hij (by rw [← hn]; simpa using hj)
  have e1 : d[i]! = d.toList[i] := by rw [getElem!_pos d i (by simpa using hi)]; simp
  have e2 : d[j]! = d.toList[j] := by rw [getElem!_pos d j (by simpa using hj)]; simp
  rw [e1, e2] at this
  exact this

end Go.Proofs.YtgmmoghagpmpfaaGreatDoor

/- Chapter 27: names sorted. Names are not too long; the library's variable MaxLen holds a number. -/
namespace Go.Proofs.YtgmmoghagpmpfaaGreatDoor
open Go.RowKit Go.Maps Go.Sort

/-- Names that are not too long. -/
abbrev NmX := {s : ByteArray // s.size ≤ 1073741824}
instance : Inhabited NmX := ⟨⟨⟨#[]⟩, by show 0 ≤ 1073741824; omega⟩⟩
def encN (a : NmX) : Value := .string a.1
theorem encN_one : OneCell encN := fun _ => rfl
def cfN (x y : NmX) : Int := gnC x.1 y.1
theorem cfN_ord : Ord3 cfN := ⟨fun x y => gnC_ord.anti x.1 y.1, fun x y z => gnC_ord.tlt x.1 y.1 z.1, fun x y z => gnC_ord.el x.1 y.1 z.1, fun x y z => gnC_ord.le x.1 y.1 z.1⟩
theorem cfN_swo : SWO (ltOf cfN) := cfN_ord.swo
set_option maxHeartbeats 1000000 in
theorem nsort_any (cs : List NmX) (p : Option Addr) (c : Nat) (w : World) {base : Nat} (ho : w.ownsRow base 9 1 (.slice p cs.length c) cs.length (cs.map encN)) (hl : cs.length ≤ 1000000) (hG : GW w) :
    Calls Tryz.prog 51 #[.slice p cs.length c, .func (.func 52) #[] #[]] w fun e w' => e = .returned (.tuple #[]) ∧
      ∃ cs' : List NmX, cs'.Perm cs ∧ (cs'.Pairwise fun x y => ¬ cfN y x < 0) ∧ w'.ownsRow base 9 1 (.slice p cs'.length c) cs'.length (cs'.map encN) ∧ Kp (fun i => (Value.slice p cs.length c).ownBlock = some i) w w' := by
  rcases Nat.eq_zero_or_pos cs.length with h0 | h0
  · have : cs = [] := List.eq_nil_of_length_eq_zero h0
    subst this
    exact (Tryz.slices_SortFunc_none (α := NmX) p c _ w).mono fun e w' ⟨he, hw⟩ => ⟨he, [], .refl _, .nil, by rw [hw]; exact ho, by rw [hw]; exact .refl _ _⟩
  obtain ⟨g, cur, rfl, hbase, hg, hcap, hmax, hcs, hH⟩ := own_holds encN ho h0
  have hng : ¬ 0 = g := fun e => by
    obtain ⟨mm, hm⟩ := hG
    have h1 := (hH 0 (by simpa using h0)).1
    rw [← e] at h1
    have h2 := hm.symm.trans h1
    cases h2
  have eg : ∀ args w, (callFunc 52 args).run Tryz.prog w = .ok (.enter 52 args) w := enters_of Tryz.func52 (by kernel_rfl) rfl
  have hcmp : CmpLays1 Tryz.prog 52 #[] encN cfN g 0 cs.toArray.size w := fun m os dk _ x y => by
    have hk := sort1_kp encN w g 0 m dk os
    exact (gncmp1_any x.1 y.1 _ x.2 y.2 (hG.kp hk hng)).mono fun e w' ⟨he, hk, hd⟩ => ⟨he, grow_of1 hk hd⟩
  have hS := Tryz.slices_SortFunc encN encN_one cfN cfN_swo 52 #[] g 0 c cs.toArray w eg hcmp hH (block_lt hg) (by simp; omega)
  change Calls Tryz.prog 51 #[.slice (some ⟨g, 0, none⟩) cs.length c, .func (.func 52) #[] #[]] w _ at hS
  refine hS.mono fun e w' ⟨he, d, m, os, hperm, hsort, hw⟩ => ?_
  obtain ⟨hp, hrow⟩ := sort1_post encN hbase hg hcap hmax hcs hH (m := m) (os := os) hperm
  refine ⟨he, d.toList, hp, ?_, by rw [hw]; exact hrow, by rw [hw]; exact (sort1_kp encN w g 0 m d os).mono fun i _ e => by rw [e]; rfl⟩
  refine (sorted_pw hperm.1 hsort).imp fun {x y} h hc => ?_
  have h : decide (cfN y x < 0) = false := h
  rw [decide_eq_true hc] at h
  cases h

end Go.Proofs.YtgmmoghagpmpfaaGreatDoor

/- The formulas of functions by the symbolic evaluator, and that each gives the call's contract. Written by a program (gen.py). No condition. -/
namespace Go.Proofs.YtgmmoghagpmpfaaGreatDoor
set_option maxRecDepth 100000
set_option linter.unusedVariables false

end Go.Proofs.YtgmmoghagpmpfaaGreatDoor

/- Chapter 27: the contracts of Groups, Equal, Clone. The library's variable MaxLen holds a number. -/
namespace Go.Proofs.YtgmmoghagpmpfaaGreatDoor
open Go.RowKit Go.Maps Go.Sort

theorem name_size {s : ByteArray} (h : gnE s = 0) : s.size ≤ 80 := by
  unfold gnE at h
  split at h
  · cases h
  · omega
section
variable {w : World} {B b mb : Nat} {m : TM} {A : TA}
theorem Tq.keyOf (h : Tq w B b mb m A) {q : ByteArray × Gx} (hq : q ∈ m) : aget m q.1 = some q.2 ∧ q.1.size ≤ 1073741824 ∧ gnE q.1 = 0 := by
  have h1 := aget_at h.z.dis (show (q.1, q.2) ∈ m from hq)
  have h2 := (h.wf.get (h.getS h1)).1
  exact ⟨h1, by have := name_size h2; omega, h2⟩
theorem Tq.names (h : Tq w B b mb m A) : (m.map (·.1)).Perm (A.map (·.1)) := by
  have := h.prm.map (·.1)
  have e : (amap Gx.v m).map (·.1) = m.map (·.1) := by unfold amap; rw [List.map_map]; rfl
  rw [e] at this
  exact this
theorem erase_perm27 {α : Type} : ∀ (l : List α) (j : Nat) (x : α), l[j]? = some x → (x :: l.eraseIdx j).Perm l
  | [], _, _, h => by simp at h
  | y :: r, 0, x, h => by
    have e : y = x := by simpa using h
    subst e; exact .refl _
  | y :: r, j + 1, x, h => by
    rw [List.eraseIdx_cons_succ]
    exact (List.Perm.swap y x _).trans ((erase_perm27 r j x (by simpa using h)).cons y)
set_option maxHeartbeats 1000000 in
theorem acgroups_any (h : Tq w B b mb m A) (hG : GW w) : Calls Tryz.prog 18 #[.pointer (some ⟨b, 0, none⟩)] w fun e w' => (∃ p c, e = .returned (.slice p (A.map (·.1)).length c) ∧ w'.ownsRow w.heap.size 9 1 (.slice p (A.map (·.1)).length c) (A.map (·.1)).length ((A.map (·.1)).map .string)) ∧ K0 w w' := by
  have hbw := block_lt h.z.st
  have hmw := h.z.mm.lt
  have hml : m.length ≤ 4096 := by rw [h.length]; exact h.len
  obtain ⟨r, w1, hrun, hR, k1, gr, rlt⟩ := h.z.mm.range (t := 97) Tryz.underlying97
  refine vc_acgroups b w _ ⟨some mb, h.z.cM, r, w1, hrun, .of_k0 k1, ?_⟩
  refine ⟨fun vs w' => ∃ (cs : List NmX) (todo : TM) (p : Option Addr) (c : Nat), vs = [.slice p cs.length c] ∧ RngB Value.string w' r mb (amap gxV todo) ∧ todo.Sublist m ∧ cs.length + todo.length ≤ m.length ∧ (cs.map (·.1) ++ todo.map (·.1)).Perm (m.map (·.1)) ∧
      w'.ownsRow w1.heap.size 9 1 (.slice p cs.length c) cs.length (cs.map encN) ∧ Kp (· = r) w1 w',
    fun _ w' => leftN w' r mb, ⟨[], m, none, 0, rfl, hR, .refl _, by simp, .refl _, World.ownsRow_nil _ _ _ _, .refl _ _⟩, ?_⟩
  rintro p0 n0 c0 w2 ⟨cs, todo, p, c, hv, hR2, hsub, hlen, hperm, ho2, k2⟩
  simp only [List.cons.injEq, Value.slice.injEq, and_true] at hv
  obtain ⟨rfl, rfl, rfl⟩ := hv
  have kw2 : K0 w w2 := k1.fresh k2 (fun j hj e => by omega)
  rcases hR2.next (P := Tryz.prog) with ⟨hnil, hnx⟩ | ⟨j, q, w3, hj, hnx, hent, hR3, k3⟩
  · have htodo : todo = [] := by
      cases todo with
      | nil => rfl
      | cons x t => simp [amap] at hnil
    subst htodo
    refine ⟨false, [], w2, hnx, .refl _ _, bsp_intro (fun h => by cases h) (fun _ => ?_)⟩
    refine ⟨(nsort_any cs p0 c0 w2 ho2 (by omega) (hG.kp kw2 (fun h => h))).mono fun e w3 ⟨he, cs', hp, hs, ho3, k3⟩ => ⟨he, ⟨k3.size, fun x hx => by cases hx⟩, ?_, kw2.fresh k3 (fun j hj e => by have := own_ge ho2 e; have := k1.size; omega)⟩⟩
    rw [List.map_nil, List.append_nil] at hperm
    have e1 : cs'.map (·.1) = A.map (·.1) := by
      refine perm_sorted_eq (R := fun x y => ¬ gnC y x < 0) (fun x y h1 h2 => ?_) _ _ (((hp.map _).trans hperm).trans h.names) ?_ ?_
      · have := gnC_ord.anti x y
        exact gnC_eq x y (by omega)
      · rw [List.pairwise_map]; exact hs
      · rw [List.pairwise_map]
        refine h.wf.sort.imp (fun {a b} h1 h2 => ?_)
        have := gnC_ord.anti a.1 b.1
        omega
    have e2 : cs.length = (A.map (·.1)).length := by rw [← e1, List.length_map, hp.length_eq]
    have e3 : cs'.map encN = (A.map (·.1)).map Value.string := by rw [← e1, List.map_map]; rfl
    rw [hp.length_eq, e2, e3] at ho3
    rw [e2]
    exact ⟨p0, c0, rfl, own_base ho3 k1.size⟩
  · have hj' : ((todo.map fun p => (p.1, gxV p.2)))[j]? = some q := hj
    rw [List.getElem?_map, Option.map_eq_some_iff] at hj'
    obtain ⟨q, hqj, rfl⟩ := hj'
    have hmem : q ∈ m := hsub.subset (List.mem_of_getElem? hqj)
    obtain ⟨hq1, hq2, _⟩ := h.keyOf hmem
    have her : (amap gxV todo).eraseIdx j = amap gxV (todo.eraseIdx j) := by unfold amap; rw [map_erase']
    rw [her] at hR3
    have hjl := (List.getElem?_eq_some_iff.1 hqj).1
    have helen : (todo.eraseIdx j).length = todo.length - 1 := List.length_eraseIdx_of_lt hjl
    have hl2 := hR2.left
    have hlam : (amap gxV todo).length = todo.length := by simp [amap]
    have hlam3 : (amap gxV (todo.eraseIdx j)).length = todo.length - 1 := by simp [amap, helen]
    have hr3 : r < w3.heap.size := by have := k2.size; have := k3.size; omega
    refine ⟨true, _, w3, hnx, ⟨k3.size, fun x hx => by cases hx⟩, bsp_intro (fun _ => ?_) (fun h => by cases h)⟩
    have ho3 := owns_kp ho2 k3 (fun k hk e => by have := own_ge ho2 hk; omega)
    refine ⟨q.1, _, _, _, _, _, hent, fun n4 W5 hW5 => ?_⟩
    have k5 : K0 w3 W5 := hW5.kk rfl
    have ho5 := owns_kp ho3 k5 (fun _ _ h => h)
    have e1 : cs.length + 1 = (cs ++ [(⟨q.1, hq2⟩ : NmX)]).length := by simp
    refine ⟨w1.heap.size, cs.map encN, ho5, by omega, by omega, Nat.le_trans k2.size (Nat.le_trans k3.size k5.size), fun p' c' w6 ho6 hg6 _ => ⟨⟨(kp_grown hg6).size, fun x hx => by cases hx⟩, ⟨cs ++ [⟨q.1, hq2⟩], todo.eraseIdx j, p', c', by rw [← e1], ?_, ((List.eraseIdx_sublist _ _).trans hsub), by rw [← e1, helen]; omega, ?_, by rw [← e1, List.map_append]; exact ho6, ?_⟩, ?_⟩⟩
    · exact (hR3.kp k5 (fun h => h) (fun h => h)).kp (kp_grown hg6) (fun e => by have := own_ge ho5 e; omega) (fun e => by have := own_ge ho5 e; have := k1.size; omega)
    · rw [List.map_append, List.append_assoc]
      refine (List.Perm.append_left _ ?_).trans hperm
      exact ((erase_perm27 todo j q hqj).map (·.1))
    · exact ((k2.trans k3).trans (k5.mono fun _ _ e => e.elim)).fresh (kp_grown hg6) (fun j hj e => by have := own_ge ho5 e; omega)
    · have hr6 := ((hR3.kp k5 (fun h => h) (fun h => h)).kp (kp_grown hg6) (fun e => by have := own_ge ho5 e; omega) (fun e => by have := own_ge ho5 e; have := k1.size; omega)).left
      show leftN w6 r mb < leftN w2 r mb
      rw [hr6, hl2, hlam, hlam3]
      omega
set_option maxHeartbeats 1000000 in
theorem acequal_any {B2 d md : Nat} {m2 : TM} {A2 : TA} (h : Tq w B b mb m A) (g : Tq w B2 d md m2 A2) : Calls Tryz.prog 24 #[.pointer (some ⟨b, 0, none⟩), .pointer (some ⟨d, 0, none⟩)] w fun e w' => (∃ r : Bool, e = .returned (.bool r) ∧ (r = true ↔ A = A2)) ∧ K0 w w' := by
  have kk : ∀ {W : World}, Loc w.heap.size [] w W → K0 w W := fun hW => hW.kk rfl
  have hl1 : (amap gxV m).length = A.length := by rw [← h.length]; simp [amap]
  have hl2 : (amap gxV m2).length = A2.length := by rw [← g.length]; simp [amap]
  refine vc_acequal b d w _ ⟨some mb, fun W hW => (h.k0 (kk hW)).z.cM, (A.length : Int), fun W hW => ?_, some md, fun W hW => (g.k0 (kk hW)).z.cM, (A2.length : Int), fun W hW => ?_, bsp_intro (fun hb W hW => ?_) (fun hb => ⟨some mb, fun W hW => (h.k0 (kk hW)).z.cM, fun W hW => ?_⟩)⟩
  · have := mapLen (h.k0 (kk hW)).z.mm (t := 97) Tryz.underlying97
    rw [hl1] at this
    exact this
  · have := mapLen (g.k0 (kk hW)).z.mm (t := 97) Tryz.underlying97
    rw [hl2] at this
    exact this
  · refine ⟨⟨false, rfl, (fun e => by cases e), fun e => ?_⟩, kk hW⟩
    rw [e] at hb
    simp at hb
  have hlen : A.length = A2.length := by simp at hb; omega
  have kW := kk hW
  have hmw := (h.k0 kW).z.mm.lt
  obtain ⟨r, w1, hrun, hR, k1, gr, rlt⟩ := (h.k0 kW).z.mm.range (t := 97) Tryz.underlying97
  refine ⟨r, w1, hrun, .of_k0 k1, ?_⟩
  refine ⟨fun vs w' => ∃ todo : TM, vs = [] ∧ RngB Value.string w' r mb (amap gxV todo) ∧ todo.Sublist m ∧ (∀ p ∈ m, p ∈ todo ∨ aget A2 p.1 = some p.2.v) ∧ Kp (· = r) w1 w',
    fun _ w' => leftN w' r mb, ⟨m, rfl, hR, .refl _, (fun p hp => .inl hp), .refl _ _⟩, ?_⟩
  rintro w2 ⟨todo, _, hR2, hsub, hdone, k2⟩
  have kw2 : K0 w w2 := (kW.trans k1).fresh k2 (fun j hj e => by have := kW.size; omega)
  rcases hR2.next (P := Tryz.prog) with ⟨hnil, hnx⟩ | ⟨j, q, w3, hj, hnx, hent, hR3, k3⟩
  · have htodo : todo = [] := by
      cases todo with
      | nil => rfl
      | cons x t => simp [amap] at hnil
    subst htodo
    refine ⟨false, [], w2, hnx, .refl _ _, bsp_intro (fun h => by cases h) (fun _ => ⟨⟨true, rfl, fun _ => ?_, fun _ => rfl⟩, kw2⟩)⟩
    refine sub_eq h.wf g.wf hlen (fun p hp => ?_)
    have hp2 := aget_at h.wf.dis (show (p.1, p.2) ∈ A from hp)
    have hgm := h.get p.1
    rw [hp2] at hgm
    cases hx : aget m p.1 with
    | none => rw [hx] at hgm; cases hgm
    | some x =>
      rw [hx] at hgm
      have e : p.2 = x.v := Option.some.inj hgm
      rcases hdone (p.1, x) (aget_mem hx) with e2 | e2
      · cases e2
      · rw [e2, e]
  · have hj' : ((todo.map fun p => (p.1, gxV p.2)))[j]? = some q := hj
    rw [List.getElem?_map, Option.map_eq_some_iff] at hj'
    obtain ⟨q, hqj, rfl⟩ := hj'
    have hmem : q ∈ m := hsub.subset (List.mem_of_getElem? hqj)
    obtain ⟨hq1, hq2, _⟩ := h.keyOf hmem
    have her : (amap gxV todo).eraseIdx j = amap gxV (todo.eraseIdx j) := by unfold amap; rw [map_erase']
    rw [her] at hR3
    have hjl := (List.getElem?_eq_some_iff.1 hqj).1
    have helen : (todo.eraseIdx j).length = todo.length - 1 := List.length_eraseIdx_of_lt hjl
    have hl3 := hR2.left
    have hlam : (amap gxV todo).length = todo.length := by simp [amap]
    have hlam3 : (amap gxV (todo.eraseIdx j)).length = todo.length - 1 := by simp [amap, helen]
    have k03 : K0 w w3 := kw2.fresh k3 (fun j hj e => by have := kW.size; omega)
    have hgA : aget A q.1 = some q.2.v := h.getS hq1
    refine ⟨true, _, w3, hnx, ⟨k3.size, fun x hx => by cases hx⟩, bsp_intro (fun _ => ?_) (fun h => by cases h)⟩
    refine ⟨q.1, q.2.v.h, q.2.v.c, q.2.p, q.2.v.l.length, q.2.c, hent, fun n1 => ?_⟩
    have k1' : ∀ {n : Nat} {t : TypeId} {cs : List Value} {W : World}, Loc w.heap.size [Blk.mk n t cs (wrM 2)] w3 W → K0 w W := fun hW => hW.k0 k03
    cases hx : aget m2 q.1 with
    | none =>
      have hlk : ∀ {W : World}, K0 w W → LookP Tryz.prog 97 (.map (some md)) (.string q.1) true (.tuple #[gxV gxz, .bool false]) W := fun k => by
        have := (g.k0 k).z.look1 hq2
        rw [hx] at this
        exact this
      refine ⟨some md, fun W hW => (g.k0 (k1' hW)).z.cM, _, _, _, _, _, _, fun W hW => hlk (k1' hW), fun n4 => ⟨0, gimp_intro (fun h => by cases h), 0, gimp_intro (fun h => by cases h), false, gimp_intro (fun h => by cases h), false, gimp_intro (fun h => by cases h), none, 0, 0, gimp_intro (fun h => by cases h), none, 0, 0, gimp_intro (fun h => by cases h), fun W hW => bsp_intro (fun h => by cases h) (fun _ => ⟨.refl _ _, ⟨false, rfl, (fun e => by cases e), fun e => ?_⟩, hW.k0 k03⟩)⟩⟩
      rw [e, g.getN hx] at hgA
      cases hgA
    | some y =>
      have hlk : ∀ {W : World}, K0 w W → LookP Tryz.prog 97 (.map (some md)) (.string q.1) true (.tuple #[gxV y, .bool true]) W := fun k => by
        have := (g.k0 k).z.look1 hq2
        rw [hx] at this
        exact this
      have hgB := g.getS hx
      refine ⟨some md, fun W hW => (g.k0 (k1' hW)).z.cM, _, _, _, _, _, _, fun W hW => hlk (k1' hW), fun n4 => ⟨q.2.v.h, gimp_intro (fun _ W hW => cell_at (hW.cells 1 rfl) rfl), y.v.h, gimp_intro (fun _ W hW => cell_at (hW.cells 0 rfl) rfl), q.2.v.c, gimp_intro (fun _ W hW => cell_at (hW.cells 1 rfl) rfl), y.v.c, gimp_intro (fun _ W hW => cell_at (hW.cells 0 rfl) rfl), q.2.p, q.2.v.l.length, q.2.c, gimp_intro (fun _ W hW => cell_at (hW.cells 1 rfl) rfl), y.p, y.v.l.length, y.c, gimp_intro (fun _ W hW => cell_at (hW.cells 0 rfl) rfl), fun W hW => bsp_intro (fun hc => ?_) (fun hc => ?_)⟩⟩
      · have k0W : K0 w W := hW.k0 k03
        have hch : q.2.v.h = y.v.h ∧ q.2.v.c = y.v.c := by
          simp at hc
          exact hc
        refine ⟨(ivequal_any q.2.v.l y.v.l q.2.p y.p q.2.c y.c W ((h.rowOf hq1).k0 k0W) ((g.rowOf hx).k0 k0W) (by have := h.lenOf hq1; omega) (by have := g.lenOf hx; omega)).mono fun e w5 ⟨⟨rr, he, hrr⟩, k5⟩ => ⟨rr, he, .of_k0 k5, bsp_intro (fun hd => ?_) (fun hd => ?_)⟩⟩
        · have hd : rr = false := by simpa using hd
          refine ⟨⟨false, rfl, (fun e => by cases e), fun e => ?_⟩, k0W.trans k5⟩
          rw [e, hgB] at hgA
          have : y.v = q.2.v := Option.some.inj hgA
          rw [hd] at hrr
          exact absurd (hrr.2 (by rw [this])) (by simp)
        · have hd : rr = true := by simpa using hd
          have hll := hrr.1 hd
          have hvv : y.v = q.2.v := by
            obtain ⟨⟨a1, a2, a3⟩, a4, a5⟩ := y
            obtain ⟨q1, ⟨⟨b1, b2, b3⟩, b4, b5⟩⟩ := q
            simp only at hch hll ⊢
            rw [hch.1, hch.2, hll]
          have kk5 : K0 w3 w5 := (hW.kk rfl : K0 w3 W).trans k5
          have hR5 := hR3.kp kk5 (fun h => h) (fun h => h)
          refine ⟨⟨todo.eraseIdx j, rfl, hR5, ((List.eraseIdx_sublist _ _).trans hsub), fun p hp => ?_, (k2.trans k3).trans (kk5.mono fun _ _ e => e.elim)⟩, ?_⟩
          · rcases hdone p hp with e | e
            · rcases List.mem_cons.1 ((erase_perm27 todo j q hqj).mem_iff.2 e) with e2 | e2
              · subst e2
                exact .inr (by rw [hgB, hvv])
              · exact .inl e2
            · exact .inr e
          · show leftN w5 r mb < leftN w2 r mb
            rw [hR5.left, hl3, hlam, hlam3]
            omega
      · refine ⟨.refl _ _, ⟨false, rfl, (fun e => by cases e), fun e => ?_⟩, hW.k0 k03⟩
        rw [e, hgB] at hgA
        have : y.v = q.2.v := Option.some.inj hgA
        rw [this] at hc
        simp at hc
end

end Go.Proofs.YtgmmoghagpmpfaaGreatDoor

/- The formulas of functions by the symbolic evaluator, and that each gives the call's contract. Written by a program (gen.py). No condition. -/
namespace Go.Proofs.YtgmmoghagpmpfaaGreatDoor
set_option maxRecDepth 100000
set_option linter.unusedVariables false

def VC_acrtext (p : Option Addr) (n : Nat) (c : Nat) (w : World) (R : Ending → World → Prop) : Prop :=
 ∃ (I : List Value → World → Prop),
 ∃ (m : List Value → World → Nat),
 I [Value.int IntKind.i64 0, Value.slice none 0 0] w ∧
 ∀ (x : Int) (p_1 : Option Addr) (n_1 c : Nat) (w' : World),
 I [Value.int IntKind.i64 x, Value.slice p_1 n_1 c] w' →
 bsp (decide (x < (↑n : Int)))
 (nn true p fun (b o : Nat) =>
 (0 ≤ x ∧ x < (↑n : Int)) ∧
 ∃ (x_1 : Int),
 ∃ (x_2 : Int),
 AtL w' b (o + x.toNat * 2) [Value.int IntKind.i64 x_1, Value.int IntKind.i64 x_2] ∧
 ∀ (n : Nat) (W : World),
 Loc w.heap.size [Blk.mk n 105 [Value.int IntKind.i64 x_1, Value.int IntKind.i64 x_2] (wrM 2)] w' W →
 CallsS Tryz.prog 46 #[Value.int IntKind.i64 x_1] W fun (e : Ending) (w'_1 : World) =>
 ∃ (x_3 : ByteArray),
 e = Ending.returned (Value.string x_3) ∧
 KeptL [n] W w'_1 ∧
 bsp (decide (x_2 > x_1))
 (CallsS Tryz.prog 46 #[Value.int IntKind.i64 x_2] w'_1 fun (e : Ending) (w'_2 : World) =>
 ∃ (x_4 : ByteArray),
 e = Ending.returned (Value.string x_4) ∧
 KeptL [n] w'_1 w'_2 ∧
 (9223372036854775807 - (↑((ByteArray.mk #[45]).size + x_4.size) : Int)).NonNeg ∧
 (9223372036854775807 - (↑(x_3.size + (ByteArray.mk #[45] ++ x_4).size) : Int)).NonNeg ∧
 ∀ (n_2 : Nat) (W : World),
 Loc w.heap.size
 [Blk.mk n_2 9 [Value.string (x_3 ++ (ByteArray.mk #[45] ++ x_4))] 2,
 Blk.mk n 105 [Value.int IntKind.i64 x_1, Value.int IntKind.i64 x_2] 0]
 w'_2 W →
 ∃ (base : Nat),
 ∃ (xs : List Value),
 W.ownsRow base 9 1 (Value.slice p_1 n_1 c) n_1 xs ∧
 n_1 + 1 ≤ 9223372036854775807 ∧
 (n_1 + 1) * 16 ≤ 140737488355328 ∧
 base ≤ W.heap.size ∧
 ∀ (p' : Option Addr) (c' : Nat) (w'_3 : World),
 w'_3.ownsRow base 9 1 (Value.slice p' (n_1 + 1) c') (n_1 + 1)
 (xs ++ [Value.string (x_3 ++ (ByteArray.mk #[45] ++ x_4))]) →
 W.grownBy w'_3 (Value.slice p_1 n_1 c).ownBlock →
 AppL W p_1 n_1 c 1 p' c' →
 KeptL [n] W w'_3 ∧
 I [Value.int IntKind.i64 (IntKind.i64.wrap (x + 1)), Value.slice p' (n_1 + 1) c']
 w'_3 ∧
 m [Value.int IntKind.i64 (IntKind.i64.wrap (x + 1)), Value.slice p' (n_1 + 1) c']
 w'_3 <
 m [Value.int IntKind.i64 x, Value.slice p_1 n_1 c] w')
 (∀ (n_2 : Nat) (W : World),
 Loc w.heap.size
 [Blk.mk n_2 9 [Value.string x_3] 2,
 Blk.mk n 105 [Value.int IntKind.i64 x_1, Value.int IntKind.i64 x_2] 0]
 w'_1 W →
 ∃ (base : Nat),
 ∃ (xs : List Value),
 W.ownsRow base 9 1 (Value.slice p_1 n_1 c) n_1 xs ∧
 n_1 + 1 ≤ 9223372036854775807 ∧
 (n_1 + 1) * 16 ≤ 140737488355328 ∧
 base ≤ W.heap.size ∧
 ∀ (p' : Option Addr) (c' : Nat) (w'_2 : World),
 w'_2.ownsRow base 9 1 (Value.slice p' (n_1 + 1) c') (n_1 + 1) (xs ++ [Value.string x_3]) →
 W.grownBy w'_2 (Value.slice p_1 n_1 c).ownBlock →
 AppL W p_1 n_1 c 1 p' c' →
 KeptL [n] W w'_2 ∧
 I [Value.int IntKind.i64 (IntKind.i64.wrap (x + 1)), Value.slice p' (n_1 + 1) c'] w'_2 ∧
 m [Value.int IntKind.i64 (IntKind.i64.wrap (x + 1)), Value.slice p' (n_1 + 1) c'] w'_2 <
 m [Value.int IntKind.i64 x, Value.slice p_1 n_1 c] w'))
 (CallsS Tryz.prog 49 #[Value.slice p_1 n_1 c, Value.string (ByteArray.mk #[44])] w'
 fun (e : Ending) (w'_1 : World) =>
 ∃ (x : ByteArray),
 e = Ending.returned (Value.string x) ∧ KeptL [] w' w'_1 ∧ R (Ending.returned (Value.string x)) w'_1)
theorem vc_acrtext (p : Option Addr) (n : Nat) (c : Nat) (w : World) (R : Ending → World → Prop) (h : VC_acrtext p n c w R) : Calls Tryz.prog 47 ([Value.slice
    p n c] : List Value).toArray w R := by
  have e : execR2 { P := Tryz.prog, loops := [(3, [(9, Ck.int IntKind.i64), (3, Ck.slice)])], pur := pur1, tails := [], joins := [], boxes := [] } Tryz.f47.results.toList R (Tryz.f47.body.getD .skip) (initF [Value.slice
    p n c] (Tryz.f47.ntmps - ([Value.slice p n c] : List Value).length)) w = VC_acrtext p n c w R := by kernel_rfl
  have hb : Tryz.f47.body = some (Tryz.f47.body.getD .skip) := by kernel_rfl
  exact calls_of_exec2' (P := Tryz.prog) (fn := Tryz.f47) (c := Tryz.f47.body.getD .skip) (args := [Value.slice p n
    c]) (w := w) (R := R) pur1_ok Tryz.func47 hb e h

def VC_acpranges (s : ByteArray) (zh : Int) (w : World) (R : Ending → World → Prop) : Prop :=
 CallsS Tryz.prog 68 #[Value.string s, Value.string (ByteArray.mk #[44])] w fun (e : Ending) (w' : World) =>
 ∃ (p : Option Addr),
 ∃ (n : Nat),
 ∃ (c : Nat),
 e = Ending.returned (Value.slice p n c) ∧
 KeptL [] w w' ∧
 ∃ (I : List Value → World → Prop),
 ∃ (m : List Value → World → Nat),
 I [Value.int IntKind.i64 0, Value.slice none 0 0, Value.int IntKind.i64 1] w' ∧
 ∀ (x : Int) (p_1 : Option Addr) (n_1 c : Nat) (x_1 : Int) (w' : World),
 I [Value.int IntKind.i64 x, Value.slice p_1 n_1 c, Value.int IntKind.i64 x_1] w' →
 bsp (decide (x < (↑n : Int)))
 (nn true p fun (b o : Nat) =>
 (0 ≤ x ∧ x < (↑n : Int)) ∧
 ∃ (x_2 : ByteArray),
 w'.cell? (Addr.mk b (o + x.toNat) none) = some (Value.string x_2) ∧
 CallsS Tryz.prog 42 #[Value.string x_2, Value.string (ByteArray.mk #[45])] w'
 fun (e : Ending) (w'_1 : World) =>
 ∃ (x_3 : ByteArray),
 ∃ (x_4 : ByteArray),
 ∃ (x_5 : Bool),
 e = Ending.returned (Value.tuple #[Value.string x_3, Value.string x_4, Value.bool x_5]) ∧
 KeptL [] w' w'_1 ∧
 CallsS Tryz.prog 69 #[Value.string x_3, Value.int IntKind.i64 zh] w'_1
 fun (e : Ending) (w'_2 : World) =>
 ∃ (x_6 : Int),
 ∃ (x_7 : Int),
 e = Ending.returned (Value.tuple #[Value.int IntKind.i64 x_6, Value.int IntKind.i64 x_7]) ∧
 KeptL [] w'_1 w'_2 ∧
 bsp (x_7 != 0 || decide (x_6 < x_1))
 (R (Ending.returned (Value.tuple #[Value.slice none 0 0, Value.bool false])) w'_2)
 (bsp x_5
 (CallsS Tryz.prog 69 #[Value.string x_4, Value.int IntKind.i64 zh] w'_2
 fun (e : Ending) (w'_3 : World) =>
 ∃ (x_8 : Int),
 ∃ (x_9 : Int),
 e =
 Ending.returned
 (Value.tuple #[Value.int IntKind.i64 x_8, Value.int IntKind.i64 x_9]) ∧
 KeptL [] w'_2 w'_3 ∧
 bsp (x_9 != 0 || decide (x_8 ≤ x_6))
 (R (Ending.returned (Value.tuple #[Value.slice none 0 0, Value.bool false])) w'_3)
 (∀ (n : Nat) (W : World),
 Loc w.heap.size
 [Blk.mk n 105 [Value.int IntKind.i64 x_6, Value.int IntKind.i64 x_8] 2] w'_3 W →
 ∃ (base : Nat),
 ∃ (xs : List Value),
 W.ownsRow base 105 2 (Value.slice p_1 n_1 c) n_1 xs ∧
 n_1 + 1 ≤ 9223372036854775807 ∧
 (n_1 + 1) * 16 ≤ 140737488355328 ∧
 base ≤ W.heap.size ∧
 ∀ (p' : Option Addr) (c' : Nat) (w'_4 : World),
 w'_4.ownsRow base 105 2 (Value.slice p' (n_1 + 1) c') (n_1 + 1)
 (xs ++ [Value.int IntKind.i64 x_6, Value.int IntKind.i64 x_8]) →
 W.grownBy w'_4 (Value.slice p_1 n_1 c).ownBlock →
 AppL W p_1 n_1 c 1 p' c' →
 KeptL [] W w'_4 ∧
 I
 [Value.int IntKind.i64 (IntKind.i64.wrap (x + 1)),
 Value.slice p' (n_1 + 1) c',
 Value.int IntKind.i64 (IntKind.i64.wrap (x_8 + 2))]
 w'_4 ∧
 m
 [Value.int IntKind.i64 (IntKind.i64.wrap (x + 1)),
 Value.slice p' (n_1 + 1) c',
 Value.int IntKind.i64 (IntKind.i64.wrap (x_8 + 2))]
 w'_4 <
 m
 [Value.int IntKind.i64 x, Value.slice p_1 n_1 c,
 Value.int IntKind.i64 x_1]
 w'))
 (∀ (n : Nat) (W : World),
 Loc w.heap.size [Blk.mk n 105 [Value.int IntKind.i64 x_6, Value.int IntKind.i64 x_6] 2]
 w'_2 W →
 ∃ (base : Nat),
 ∃ (xs : List Value),
 W.ownsRow base 105 2 (Value.slice p_1 n_1 c) n_1 xs ∧
 n_1 + 1 ≤ 9223372036854775807 ∧
 (n_1 + 1) * 16 ≤ 140737488355328 ∧
 base ≤ W.heap.size ∧
 ∀ (p' : Option Addr) (c' : Nat) (w'_3 : World),
 w'_3.ownsRow base 105 2 (Value.slice p' (n_1 + 1) c') (n_1 + 1)
 (xs ++ [Value.int IntKind.i64 x_6, Value.int IntKind.i64 x_6]) →
 W.grownBy w'_3 (Value.slice p_1 n_1 c).ownBlock →
 AppL W p_1 n_1 c 1 p' c' →
 KeptL [] W w'_3 ∧
 I
 [Value.int IntKind.i64 (IntKind.i64.wrap (x + 1)),
 Value.slice p' (n_1 + 1) c',
 Value.int IntKind.i64 (IntKind.i64.wrap (x_6 + 2))]
 w'_3 ∧
 m
 [Value.int IntKind.i64 (IntKind.i64.wrap (x + 1)),
 Value.slice p' (n_1 + 1) c',
 Value.int IntKind.i64 (IntKind.i64.wrap (x_6 + 2))]
 w'_3 <
 m
 [Value.int IntKind.i64 x, Value.slice p_1 n_1 c, Value.int IntKind.i64 x_1]
 w')))
 (R (Ending.returned (Value.tuple #[Value.slice p_1 n_1 c, Value.bool true])) w')
theorem vc_acpranges (s : ByteArray) (zh : Int) (w : World) (R : Ending → World → Prop) (h : VC_acpranges s zh w R) : Calls Tryz.prog 70 ([Value.string
    s,
  Value.int IntKind.i64 zh] : List Value).toArray w R := by
  have e : execR2 { P := Tryz.prog, loops := [(4, [(19, Ck.int IntKind.i64), (6, Ck.slice), (7, Ck.int IntKind.i64)])], pur := pur1, tails := [], joins := [], boxes := [] } Tryz.f70.results.toList R (Tryz.f70.body.getD .skip) (initF [Value.string
    s,
  Value.int IntKind.i64
    zh] (Tryz.f70.ntmps - ([Value.string s,
  Value.int IntKind.i64 zh] : List Value).length)) w = VC_acpranges s zh w R := by kernel_rfl
  have hb : Tryz.f70.body = some (Tryz.f70.body.getD .skip) := by kernel_rfl
  exact calls_of_exec2' (P := Tryz.prog) (fn := Tryz.f70) (c := Tryz.f70.body.getD .skip) (args := [Value.string s,
  Value.int IntKind.i64 zh]) (w := w) (R := R) pur1_ok Tryz.func70 hb e h

def VC_acpline (s : ByteArray) (t : ByteArray) (w : World) (R : Ending → World → Prop) : Prop :=
 ∀ (n : Nat) (W : World),
 Loc w.heap.size [Blk.mk n 94 [Value.int IntKind.i64 0, Value.bool false, Value.slice none 0 0] 2] w W →
 CallsS Tryz.prog 68 #[Value.string s, Value.string (ByteArray.mk #[32])] W fun (e : Ending) (w' : World) =>
 ∃ (p : Option Addr),
 ∃ (n_1 : Nat),
 ∃ (c : Nat),
 e = Ending.returned (Value.slice p n_1 c) ∧
 KeptL [n] W w' ∧
 bsp (!(decide ((↑n_1 : Int) < 3) || decide ((↑n_1 : Int) > 4)))
 (CallsS Tryz.prog 60 #[Value.slice p n_1 c, Value.string (ByteArray.mk #[])] w'
 fun (e : Ending) (w'_1 : World) =>
 ∃ (x : Bool),
 e = Ending.returned (Value.bool x) ∧
 KeptL [n] w' w'_1 ∧
 bsp (false || x)
 (∀ (W : World),
 Loc w.heap.size [Blk.mk n 94 [Value.int IntKind.i64 0, Value.bool false, Value.slice none 0 0] (wrM 0)]
 w'_1 W →
 R
 (Ending.returned
 (Value.tuple
 #[Value.string (ByteArray.mk #[]),
 Value.agg #[Value.int IntKind.i64 0, Value.bool false, Value.slice none 0 0],
 Value.int IntKind.i64 3]))
 W)
 (nn true p fun (b o : Nat) =>
 ((0 : Int) ≤ 0 ∧ 0 < (↑n_1 : Int)) ∧
 ∃ (x : ByteArray),
 w'_1.cell? (Addr.mk b o none) = some (Value.string x) ∧
 CallsS Tryz.prog 64 #[Value.string x] w'_1 fun (e : Ending) (w' : World) =>
 ∃ (x_1 : Int),
 e = Ending.returned (Value.int IntKind.i64 x_1) ∧
 KeptL [n] w'_1 w' ∧
 bsp (x_1 != 0)
 (∀ (W : World),
 Loc w.heap.size
 [Blk.mk n 94 [Value.int IntKind.i64 0, Value.bool false, Value.slice none 0 0] (wrM 0)] w' W →
 R
 (Ending.returned
 (Value.tuple
 #[Value.string (ByteArray.mk #[]),
 Value.agg #[Value.int IntKind.i64 0, Value.bool false, Value.slice none 0 0],
 Value.int IntKind.i64 x_1]))
 W)
 (bsp (!t.toList == [])
 (CallsS Tryz.prog 52 #[Value.string t, Value.string x] w' fun (e : Ending) (w'_2 : World) =>
 ∃ (x_2 : Int),
 e = Ending.returned (Value.int IntKind.i64 x_2) ∧
 KeptL [n] w' w'_2 ∧
 bsp (true && decide (x_2 ≥ 0))
 (∀ (W : World),
 Loc w.heap.size
 [Blk.mk n 94 [Value.int IntKind.i64 0, Value.bool false, Value.slice none 0 0] (wrM 0)]
 w'_2 W →
 R
 (Ending.returned
 (Value.tuple
 #[Value.string (ByteArray.mk #[]),
 Value.agg #[Value.int IntKind.i64 0, Value.bool false, Value.slice none 0 0],
 Value.int IntKind.i64 30]))
 W)
 (nn true p fun (b o : Nat) =>
 ((0 : Int) ≤ 1 ∧ 1 < (↑n_1 : Int)) ∧
 ∃ (x_3 : ByteArray),
 w'_2.cell? (Addr.mk b (o + 1) none) = some (Value.string x_3) ∧
 CallsS Tryz.prog 69 #[Value.string x_3, Value.int IntKind.i64 2147483646] w'_2
 fun (e : Ending) (w' : World) =>
 ∃ (x_4 : Int),
 ∃ (x_5 : Int),
 e =
 Ending.returned
 (Value.tuple #[Value.int IntKind.i64 x_4, Value.int IntKind.i64 x_5]) ∧
 KeptL [n] w'_2 w' ∧
 bsp (x_5 != 0)
 (∀ (W : World),
 Loc w.heap.size
 [Blk.mk n 94 [Value.int IntKind.i64 0, Value.bool false, Value.slice none 0 0]
 (wrM 0)]
 w' W →
 R
 (Ending.returned
 (Value.tuple
 #[Value.string (ByteArray.mk #[]),
 Value.agg
 #[Value.int IntKind.i64 0, Value.bool false, Value.slice none 0 0],
 Value.int IntKind.i64 2]))
 W)
 (nn true p fun (b o : Nat) =>
 ((0 : Int) ≤ 2 ∧ 2 < (↑n_1 : Int)) ∧
 ∃ (x_6 : ByteArray),
 w'.cell? (Addr.mk b (o + 2) none) = some (Value.string x_6) ∧
 nn (!x_6.toList == [(ByteArray.mk #[121]).get! 0]) p fun (b o : Nat) =>
 gimp (!x_6.toList == [(ByteArray.mk #[121]).get! 0])
 ((0 : Int) ≤ 2 ∧ 2 < (↑n_1 : Int)) ∧
 ∃ (x_7 : ByteArray),
 gimp (!x_6.toList == [(ByteArray.mk #[121]).get! 0])
 (w'.cell? (Addr.mk b (o + 2) none) = some (Value.string x_7)) ∧
 bsp
 (!x_6.toList == [(ByteArray.mk #[121]).get! 0] &&
 !x_7.toList == [(ByteArray.mk #[110]).get! 0])
 (∀ (W : World),
 Loc w.heap.size
 [Blk.mk n 94
 [Value.int IntKind.i64 0, Value.bool false, Value.slice none 0 0]
 (wrM 0)]
 w' W →
 R
 (Ending.returned
 (Value.tuple
 #[Value.string (ByteArray.mk #[]),
 Value.agg
 #[Value.int IntKind.i64 0, Value.bool false,
 Value.slice none 0 0],
 Value.int IntKind.i64 3]))
 W)
 (nn true p fun (b o : Nat) =>
 ((0 : Int) ≤ 2 ∧ 2 < (↑n_1 : Int)) ∧
 ∃ (x_8 : ByteArray),
 w'.cell? (Addr.mk b (o + 2) none) = some (Value.string x_8) ∧
 ∀ (n_2 : Nat),
 bsp ((↑n_1 : Int) == 4)
 (nn true p fun (b o : Nat) =>
 ((0 : Int) ≤ 3 ∧ 3 < (↑n_1 : Int)) ∧
 ∃ (x_9 : ByteArray),
 (∀ (W : World),
 Loc w.heap.size
 [Blk.mk n_2 94
 [Value.int IntKind.i64 x_4,
 Value.bool
 (x_8.toList == [(ByteArray.mk #[110]).get! 0]),
 Value.slice none 0 0]
 (wrM 2),
 Blk.mk n 94
 [Value.int IntKind.i64 0, Value.bool false,
 Value.slice none 0 0]
 0]
 w' W →
 W.cell? (Addr.mk b (o + 3) none) =
 some (Value.string x_9)) ∧
 ∀ (W : World),
 Loc w.heap.size
 [Blk.mk n_2 94
 [Value.int IntKind.i64 x_4,
 Value.bool
 (x_8.toList == [(ByteArray.mk #[110]).get! 0]),
 Value.slice none 0 0]
 (wrM 2),
 Blk.mk n 94
 [Value.int IntKind.i64 0, Value.bool false,
 Value.slice none 0 0]
 0]
 w' W →
 CallsS Tryz.prog 70
 #[Value.string x_9, Value.int IntKind.i64 x_4] W
 fun (e : Ending) (w' : World) =>
 ∃ (p : Option Addr),
 ∃ (n_3 : Nat),
 ∃ (c : Nat),
 ∃ (x_10 : Bool),
 e =
 Ending.returned
 (Value.tuple
 #[Value.slice p n_3 c, Value.bool x_10]) ∧
 KeptL [n_2, n] W w' ∧
 bsp (!x_10)
 (∀ (W : World),
 Loc w.heap.size
 [Blk.mk n_2 94
 [Value.int IntKind.i64 x_4,
 Value.bool
 (x_8.toList ==
 [(ByteArray.mk #[110]).get! 0]),
 Value.slice none 0 0]
 0,
 Blk.mk n 94
 [Value.int IntKind.i64 0, Value.bool false,
 Value.slice none 0 0]
 (wrM 0)]
 w' W →
 R
 (Ending.returned
 (Value.tuple
 #[Value.string (ByteArray.mk #[]),
 Value.agg
 #[Value.int IntKind.i64 0, Value.bool false,
 Value.slice none 0 0],
 Value.int IntKind.i64 3]))
 W)
 (∀ (W : World),
 Loc w.heap.size
 [Blk.mk n_2 94
 [Value.int IntKind.i64 x_4,
 Value.bool
 (x_8.toList ==
 [(ByteArray.mk #[110]).get! 0]),
 Value.slice p n_3 c]
 (wrM 0),
 Blk.mk n 94
 [Value.int IntKind.i64 x_4,
 Value.bool
 (x_8.toList ==
 [(ByteArray.mk #[110]).get! 0]),
 Value.slice p n_3 c]
 (wrM 0)]
 w' W →
 R
 (Ending.returned
 (Value.tuple
 #[Value.string x,
 Value.agg
 #[Value.int IntKind.i64 x_4,
 Value.bool
 (x_8.toList ==
 [(ByteArray.mk #[110]).get! 0]),
 Value.slice p n_3 c],
 Value.int IntKind.i64 0]))
 W))
 (∀ (W : World),
 Loc w.heap.size
 [Blk.mk n_2 94
 [Value.int IntKind.i64 x_4,
 Value.bool (x_8.toList == [(ByteArray.mk #[110]).get! 0]),
 Value.slice none 0 0]
 (wrM 2),
 Blk.mk n 94
 [Value.int IntKind.i64 x_4,
 Value.bool (x_8.toList == [(ByteArray.mk #[110]).get! 0]),
 Value.slice none 0 0]
 (wrM 0)]
 w' W →
 R
 (Ending.returned
 (Value.tuple
 #[Value.string x,
 Value.agg
 #[Value.int IntKind.i64 x_4,
 Value.bool (x_8.toList == [(ByteArray.mk #[110]).get! 0]),
 Value.slice none 0 0],
 Value.int IntKind.i64 0]))
 W)))))
 (KeptL [n] w' w' ∧
 nn true p fun (b o : Nat) =>
 ((0 : Int) ≤ 1 ∧ 1 < (↑n_1 : Int)) ∧
 ∃ (x_2 : ByteArray),
 w'.cell? (Addr.mk b (o + 1) none) = some (Value.string x_2) ∧
 CallsS Tryz.prog 69 #[Value.string x_2, Value.int IntKind.i64 2147483646] w'
 fun (e : Ending) (w'_2 : World) =>
 ∃ (x_3 : Int),
 ∃ (x_4 : Int),
 e =
 Ending.returned
 (Value.tuple #[Value.int IntKind.i64 x_3, Value.int IntKind.i64 x_4]) ∧
 KeptL [n] w' w'_2 ∧
 bsp (x_4 != 0)
 (∀ (W : World),
 Loc w.heap.size
 [Blk.mk n 94 [Value.int IntKind.i64 0, Value.bool false, Value.slice none 0 0]
 (wrM 0)]
 w'_2 W →
 R
 (Ending.returned
 (Value.tuple
 #[Value.string (ByteArray.mk #[]),
 Value.agg #[Value.int IntKind.i64 0, Value.bool false, Value.slice none 0 0],
 Value.int IntKind.i64 2]))
 W)
 (nn true p fun (b o : Nat) =>
 ((0 : Int) ≤ 2 ∧ 2 < (↑n_1 : Int)) ∧
 ∃ (x_5 : ByteArray),
 w'_2.cell? (Addr.mk b (o + 2) none) = some (Value.string x_5) ∧
 nn (!x_5.toList == [(ByteArray.mk #[121]).get! 0]) p fun (b o : Nat) =>
 gimp (!x_5.toList == [(ByteArray.mk #[121]).get! 0])
 ((0 : Int) ≤ 2 ∧ 2 < (↑n_1 : Int)) ∧
 ∃ (x_6 : ByteArray),
 gimp (!x_5.toList == [(ByteArray.mk #[121]).get! 0])
 (w'_2.cell? (Addr.mk b (o + 2) none) = some (Value.string x_6)) ∧
 bsp
 (!x_5.toList == [(ByteArray.mk #[121]).get! 0] &&
 !x_6.toList == [(ByteArray.mk #[110]).get! 0])
 (∀ (W : World),
 Loc w.heap.size
 [Blk.mk n 94
 [Value.int IntKind.i64 0, Value.bool false, Value.slice none 0 0]
 (wrM 0)]
 w'_2 W →
 R
 (Ending.returned
 (Value.tuple
 #[Value.string (ByteArray.mk #[]),
 Value.agg
 #[Value.int IntKind.i64 0, Value.bool false, Value.slice none 0 0],
 Value.int IntKind.i64 3]))
 W)
 (nn true p fun (b o : Nat) =>
 ((0 : Int) ≤ 2 ∧ 2 < (↑n_1 : Int)) ∧
 ∃ (x_7 : ByteArray),
 w'_2.cell? (Addr.mk b (o + 2) none) = some (Value.string x_7) ∧
 ∀ (n_2 : Nat),
 bsp ((↑n_1 : Int) == 4)
 (nn true p fun (b o : Nat) =>
 ((0 : Int) ≤ 3 ∧ 3 < (↑n_1 : Int)) ∧
 ∃ (x_8 : ByteArray),
 (∀ (W : World),
 Loc w.heap.size
 [Blk.mk n_2 94
 [Value.int IntKind.i64 x_3,
 Value.bool (x_7.toList == [(ByteArray.mk #[110]).get! 0]),
 Value.slice none 0 0]
 (wrM 2),
 Blk.mk n 94
 [Value.int IntKind.i64 0, Value.bool false,
 Value.slice none 0 0]
 0]
 w'_2 W →
 W.cell? (Addr.mk b (o + 3) none) = some (Value.string x_8)) ∧
 ∀ (W : World),
 Loc w.heap.size
 [Blk.mk n_2 94
 [Value.int IntKind.i64 x_3,
 Value.bool (x_7.toList == [(ByteArray.mk #[110]).get! 0]),
 Value.slice none 0 0]
 (wrM 2),
 Blk.mk n 94
 [Value.int IntKind.i64 0, Value.bool false,
 Value.slice none 0 0]
 0]
 w'_2 W →
 CallsS Tryz.prog 70
 #[Value.string x_8, Value.int IntKind.i64 x_3] W
 fun (e : Ending) (w' : World) =>
 ∃ (p : Option Addr),
 ∃ (n_3 : Nat),
 ∃ (c : Nat),
 ∃ (x_9 : Bool),
 e =
 Ending.returned
 (Value.tuple #[Value.slice p n_3 c, Value.bool x_9]) ∧
 KeptL [n_2, n] W w' ∧
 bsp (!x_9)
 (∀ (W : World),
 Loc w.heap.size
 [Blk.mk n_2 94
 [Value.int IntKind.i64 x_3,
 Value.bool
 (x_7.toList == [(ByteArray.mk #[110]).get! 0]),
 Value.slice none 0 0]
 0,
 Blk.mk n 94
 [Value.int IntKind.i64 0, Value.bool false,
 Value.slice none 0 0]
 (wrM 0)]
 w' W →
 R
 (Ending.returned
 (Value.tuple
 #[Value.string (ByteArray.mk #[]),
 Value.agg
 #[Value.int IntKind.i64 0, Value.bool false,
 Value.slice none 0 0],
 Value.int IntKind.i64 3]))
 W)
 (∀ (W : World),
 Loc w.heap.size
 [Blk.mk n_2 94
 [Value.int IntKind.i64 x_3,
 Value.bool
 (x_7.toList == [(ByteArray.mk #[110]).get! 0]),
 Value.slice p n_3 c]
 (wrM 0),
 Blk.mk n 94
 [Value.int IntKind.i64 x_3,
 Value.bool
 (x_7.toList == [(ByteArray.mk #[110]).get! 0]),
 Value.slice p n_3 c]
 (wrM 0)]
 w' W →
 R
 (Ending.returned
 (Value.tuple
 #[Value.string x,
 Value.agg
 #[Value.int IntKind.i64 x_3,
 Value.bool
 (x_7.toList == [(ByteArray.mk #[110]).get! 0]),
 Value.slice p n_3 c],
 Value.int IntKind.i64 0]))
 W))
 (∀ (W : World),
 Loc w.heap.size
 [Blk.mk n_2 94
 [Value.int IntKind.i64 x_3,
 Value.bool (x_7.toList == [(ByteArray.mk #[110]).get! 0]),
 Value.slice none 0 0]
 (wrM 2),
 Blk.mk n 94
 [Value.int IntKind.i64 x_3,
 Value.bool (x_7.toList == [(ByteArray.mk #[110]).get! 0]),
 Value.slice none 0 0]
 (wrM 0)]
 w'_2 W →
 R
 (Ending.returned
 (Value.tuple
 #[Value.string x,
 Value.agg
 #[Value.int IntKind.i64 x_3,
 Value.bool (x_7.toList == [(ByteArray.mk #[110]).get! 0]),
 Value.slice none 0 0],
 Value.int IntKind.i64 0]))
 W)))))))
 (KeptL [n] w' w' ∧
 ∀ (W : World),
 Loc w.heap.size [Blk.mk n 94 [Value.int IntKind.i64 0, Value.bool false, Value.slice none 0 0] (wrM 0)] w'
 W →
 R
 (Ending.returned
 (Value.tuple
 #[Value.string (ByteArray.mk #[]),
 Value.agg #[Value.int IntKind.i64 0, Value.bool false, Value.slice none 0 0], Value.int IntKind.i64 3]))
 W)
theorem vc_acpline (s : ByteArray) (t : ByteArray) (w : World) (R : Ending → World → Prop) (h : VC_acpline s t w R) : Calls Tryz.prog 43 ([Value.string
    s,
  Value.string t] : List Value).toArray w R := by
  have e : execR2 { P := Tryz.prog, loops := [], pur := pur1, tails := [(21, 3)], joins := [], boxes := [] } Tryz.f43.results.toList R (Tryz.f43.body.getD .skip) (initF [Value.string
    s,
  Value.string
    t] (Tryz.f43.ntmps - ([Value.string s,
  Value.string t] : List Value).length)) w = VC_acpline s t w R := by kernel_rfl
  have hb : Tryz.f43.body = some (Tryz.f43.body.getD .skip) := by kernel_rfl
  exact calls_of_exec2' (P := Tryz.prog) (fn := Tryz.f43) (c := Tryz.f43.body.getD .skip) (args := [Value.string s,
  Value.string t]) (w := w) (R := R) pur1_ok Tryz.func43 hb e h

def VC_acparse (s : ByteArray) (w : World) (R : Ending → World → Prop) : Prop :=
 bsp (decide ((↑s.size : Int) > 1048576))
 (R (Ending.returned (Value.tuple #[Value.pointer none, Value.int IntKind.i64 0, Value.int IntKind.i64 5])) w)
 (CallsS Tryz.prog 19 #[] w fun (e : Ending) (w' : World) =>
 ∃ (x : Option Addr),
 e = Ending.returned (Value.pointer x) ∧
 KeptL [] w w' ∧
 ∃ (I : List Value → World → Prop),
 ∃ (m : List Value → World → Nat),
 I [Value.pointer x, Value.string (ByteArray.mk #[]), Value.string s, Value.int IntKind.i64 0] w' ∧
 ∀ (x : Option Addr) (x_1 x_2 : ByteArray) (x_3 : Int) (w' : World),
 I [Value.pointer x, Value.string x_1, Value.string x_2, Value.int IntKind.i64 x_3] w' →
 bsp (!x_2.toList == [])
 (CallsS Tryz.prog 42 #[Value.string x_2, Value.string (ByteArray.mk #[10])] w'
 fun (e : Ending) (w'_1 : World) =>
 ∃ (x_4 : ByteArray),
 ∃ (x_5 : ByteArray),
 ∃ (x_6 : Bool),
 e = Ending.returned (Value.tuple #[Value.string x_4, Value.string x_5, Value.bool x_6]) ∧
 KeptL [] w' w'_1 ∧
 bsp (!x_6)
 (R
 (Ending.returned
 (Value.tuple
 #[Value.pointer none, Value.int IntKind.i64 (IntKind.i64.wrap (x_3 + 1)),
 Value.int IntKind.i64 4]))
 w'_1)
 (CallsS Tryz.prog 43 #[Value.string x_4, Value.string x_1] w'_1 fun (e : Ending) (w'_2 : World) =>
 ∃ (x_7 : ByteArray),
 ∃ (x_8 : Int),
 ∃ (x_9 : Bool),
 ∃ (p : Option Addr),
 ∃ (n : Nat),
 ∃ (c : Nat),
 ∃ (x_10 : Int),
 e =
 Ending.returned
 (Value.tuple
 #[Value.string x_7,
 Value.agg #[Value.int IntKind.i64 x_8, Value.bool x_9, Value.slice p n c],
 Value.int IntKind.i64 x_10]) ∧
 KeptL [] w'_1 w'_2 ∧
 ∀ (n_1 : Nat),
 bsp (x_10 != 0)
 (∀ (W : World),
 Loc w.heap.size
 [Blk.mk n_1 94 [Value.int IntKind.i64 x_8, Value.bool x_9, Value.slice p n c] (wrM 2)]
 w'_2 W →
 R
 (Ending.returned
 (Value.tuple
 #[Value.pointer none, Value.int IntKind.i64 (IntKind.i64.wrap (x_3 + 1)),
 Value.int IntKind.i64 x_10]))
 W)
 (bsp (decide (IntKind.i64.wrap (x_3 + 1) > 4096))
 (∀ (W : World),
 Loc w.heap.size
 [Blk.mk n_1 94 [Value.int IntKind.i64 x_8, Value.bool x_9, Value.slice p n c] (wrM 2)]
 w'_2 W →
 R
 (Ending.returned
 (Value.tuple
 #[Value.pointer none, Value.int IntKind.i64 (IntKind.i64.wrap (x_3 + 1)),
 Value.int IntKind.i64 9]))
 W)
 (nn true x fun (b o : Nat) =>
 ∃ (x_11 : Option Nat),
 (∀ (W : World),
 Loc w.heap.size
 [Blk.mk n_1 94 [Value.int IntKind.i64 x_8, Value.bool x_9, Value.slice p n c]
 (wrM 2)]
 w'_2 W →
 W.cell? (Addr.mk b o none) = some (Value.map x_11)) ∧
 ∀ (W : World),
 Loc w.heap.size
 [Blk.mk n_1 94 [Value.int IntKind.i64 x_8, Value.bool x_9, Value.slice p n c]
 (wrM 2)]
 w'_2 W →
 ∃ (w1 : World),
 UpdP Tryz.prog 97 (Value.map x_11) (Value.string x_7)
 (Value.agg #[Value.int IntKind.i64 x_8, Value.bool x_9, Value.slice p n c]) W
 w1 ∧
 KeptL [n_1] W w1 ∧
 I
 [Value.pointer x, Value.string x_7, Value.string x_5,
 Value.int IntKind.i64 (IntKind.i64.wrap (x_3 + 1))]
 w1 ∧
 m
 [Value.pointer x, Value.string x_7, Value.string x_5,
 Value.int IntKind.i64 (IntKind.i64.wrap (x_3 + 1))]
 w1 <
 m
 [Value.pointer x, Value.string x_1, Value.string x_2,
 Value.int IntKind.i64 x_3]
 w'))))
 (R (Ending.returned (Value.tuple #[Value.pointer x, Value.int IntKind.i64 0, Value.int IntKind.i64 0])) w'))
theorem vc_acparse (s : ByteArray) (w : World) (R : Ending → World → Prop) (h : VC_acparse s w R) : Calls Tryz.prog 13 ([Value.string
    s] : List Value).toArray w R := by
  have e : execR2 { P := Tryz.prog, loops := [(6, [(2, Ck.ptr), (5, Ck.str), (6, Ck.str), (3, Ck.int IntKind.i64)])], pur := pur1, tails := [(16, 6)], joins := [], boxes := [] } Tryz.f13.results.toList R (Tryz.f13.body.getD .skip) (initF [Value.string
    s] (Tryz.f13.ntmps - ([Value.string s] : List Value).length)) w = VC_acparse s w R := by kernel_rfl
  have hb : Tryz.f13.body = some (Tryz.f13.body.getD .skip) := by kernel_rfl
  exact calls_of_exec2' (P := Tryz.prog) (fn := Tryz.f13) (c := Tryz.f13.body.getD .skip) (args := [Value.string
    s]) (w := w) (R := R) pur1_ok Tryz.func13 hb e h

end Go.Proofs.YtgmmoghagpmpfaaGreatDoor

/- The formulas of functions by the symbolic evaluator, and that each gives the call's contract. Written by a program (gen.py). No condition. -/
namespace Go.Proofs.YtgmmoghagpmpfaaGreatDoor
set_option maxRecDepth 100000
set_option linter.unusedVariables false

def VC_acprint1 (b : Nat) (w : World) (R : Ending → World → Prop) : Prop :=
 ∀ (n : Nat) (w1 : World),
 NewB w (Obj.cells #[Value.pointer none, Value.slice none 0 0] 109) n w1 →
 CallsS Tryz.prog 18 #[Value.pointer (some (Addr.mk b 0 none))] w1 fun (e : Ending) (w' : World) =>
 ∃ (p : Option Addr),
 ∃ (n_1 : Nat),
 ∃ (c : Nat),
 e = Ending.returned (Value.slice p n_1 c) ∧
 ∃ (I : List Value → World → Prop),
 ∃ (m : List Value → World → Nat),
 I [Value.int IntKind.i64 0] w' ∧
 ∀ (x : Int) (w' : World),
 I [Value.int IntKind.i64 x] w' →
 bsp (decide (x < (↑n_1 : Int)))
 (nn true p fun (b_1 o : Nat) =>
 (0 ≤ x ∧ x < (↑n_1 : Int)) ∧
 ∃ (x_1 : ByteArray),
 w'.cell? (Addr.mk b_1 (o + x.toNat) none) = some (Value.string x_1) ∧
 ∃ (x_2 : Option Nat),
 w'.cell? (Addr.mk b 0 none) = some (Value.map x_2) ∧
 ∃ (x_3 : Int),
 ∃ (x_4 : Bool),
 ∃ (p : Option Addr),
 ∃ (n_2 : Nat),
 ∃ (c : Nat),
 LookP Tryz.prog 97 (Value.map x_2) (Value.string x_1) false
 (Value.agg #[Value.int IntKind.i64 x_3, Value.bool x_4, Value.slice p n_2 c]) w' ∧
 ∀ (n_3 : Nat) (w1 : World),
 NewB w' (Obj.cells #[Value.int IntKind.i64 0, Value.bool false, Value.slice none 0 0] 94) n_3
 w1 →
 WrL w1 n_3 0 3 ∧
 ∀ (w1_1 : World),
 PutB w1 n_3 0 [Value.int IntKind.i64 x_3, Value.bool x_4, Value.slice p n_2 c] w1_1 →
 ∃ (x_5 : Int),
 w1_1.cell? (Addr.mk n_3 0 none) = some (Value.int IntKind.i64 x_5) ∧
 CallsS Tryz.prog 46 #[Value.int IntKind.i64 x_5] w1_1 fun (e : Ending) (w'_1 : World) =>
 ∃ (x_6 : ByteArray),
 e = Ending.returned (Value.string x_6) ∧
 ∀ (n_4 : Nat) (w1 : World),
 NewB w'_1
 (Obj.cells
 #[Value.string x_1, Value.string x_6, Value.string (ByteArray.mk #[121])] 9)
 n_4 w1 →
 ∃ (x_7 : Bool),
 w1.cell? (Addr.mk n_3 (0 + 1) none) = some (Value.bool x_7) ∧
 bsp x_7
 (((0 : Int) ≤ 2 ∧ 2 < (↑3 : Int)) ∧
 ((∃ (u : Value), w1.cell? (Addr.mk n_4 2 none) = some u) ∧
 w1.frozen? (Addr.mk n_4 2 none) = false) ∧
 ∀ (w1_2 : World),
 PutB w1 n_4 2 [Value.string (ByteArray.mk #[110])] w1_2 →
 ∃ (p : Option Addr),
 ∃ (n_5 : Nat),
 ∃ (c : Nat),
 w1_2.cell? (Addr.mk n_3 (0 + 2) none) = some (Value.slice p n_5 c) ∧
 bsp (decide ((↑n_5 : Int) > 0))
 (∃ (p : Option Addr),
 ∃ (n_6 : Nat),
 ∃ (c : Nat),
 w1_2.cell? (Addr.mk n_3 (0 + 2) none) = some (Value.slice p n_6 c) ∧
 CallsS Tryz.prog 47 #[Value.slice p n_6 c] w1_2
 fun (e : Ending) (w'_2 : World) =>
 ∃ (x_8 : ByteArray),
 e = Ending.returned (Value.string x_8) ∧
 ∀ (n_7 : Nat) (w1 : World),
 NewB w'_2 (Obj.cells #[Value.string x_8] 9) n_7 w1 →
 ∃ (base : Nat),
 ∃ (xs : List Value),
 ∃ (news : List Value),
 w1.ownsRow base 9 1
 (Value.slice (some (Addr.mk n_4 0 none)) 3 3) 3 xs ∧
 news.length = 1 ∧
 SrcP w1 (some (Addr.mk n_7 0 none)) news ∧
 (4 : Nat) ≤ 9223372036854775807 ∧
 (64 : Nat) ≤ 140737488355328 ∧
 base ≤ w1.heap.size ∧
 ∀ (p' : Option Addr) (c' : Nat) (w'_3 : World),
 w'_3.ownsRow base 9 1 (Value.slice p' 4 c') 4
 (xs ++ news) →
 w1.grownBy w'_3
 (Value.slice (some (Addr.mk n_4 0 none)) 3
 3).ownBlock →
 AppL w1 (some (Addr.mk n_4 0 none)) 3 3 1 p' c' →
 CallsS Tryz.prog 49
 #[Value.slice p' 4 c',
 Value.string (ByteArray.mk #[32])]
 w'_3 fun (e : Ending) (w'_4 : World) =>
 ∃ (x_9 : ByteArray),
 e = Ending.returned (Value.string x_9) ∧
 CallsS Tryz.prog 48
 #[Value.pointer (some (Addr.mk n 0 none)),
 Value.string x_9]
 w'_4 fun (e : Ending) (w'_5 : World) =>
 ∃ (x_10 : Int),
 ∃ (x_11 : Value),
 e =
 Ending.returned
 (Value.tuple
 #[Value.int IntKind.i64 x_10, x_11]) ∧
 CallsS Tryz.prog 48
 #[Value.pointer
 (some (Addr.mk n 0 none)),
 Value.string (ByteArray.mk #[10])]
 w'_5 fun (e : Ending) (w'_6 : World) =>
 ∃ (x_12 : Int),
 ∃ (x_13 : Value),
 e =
 Ending.returned
 (Value.tuple
 #[Value.int IntKind.i64 x_12,
 x_13]) ∧
 I
 [Value.int IntKind.i64
 (IntKind.i64.wrap (x + 1))]
 w'_6 ∧
 m
 [Value.int IntKind.i64
 (IntKind.i64.wrap (x + 1))]
 w'_6 <
 m [Value.int IntKind.i64 x] w')
 (CallsS Tryz.prog 49
 #[Value.slice (some (Addr.mk n_4 0 none)) 3 3,
 Value.string (ByteArray.mk #[32])]
 w1_2 fun (e : Ending) (w'_2 : World) =>
 ∃ (x_8 : ByteArray),
 e = Ending.returned (Value.string x_8) ∧
 CallsS Tryz.prog 48
 #[Value.pointer (some (Addr.mk n 0 none)), Value.string x_8] w'_2
 fun (e : Ending) (w'_3 : World) =>
 ∃ (x_9 : Int),
 ∃ (x_10 : Value),
 e =
 Ending.returned
 (Value.tuple #[Value.int IntKind.i64 x_9, x_10]) ∧
 CallsS Tryz.prog 48
 #[Value.pointer (some (Addr.mk n 0 none)),
 Value.string (ByteArray.mk #[10])]
 w'_3 fun (e : Ending) (w'_4 : World) =>
 ∃ (x_11 : Int),
 ∃ (x_12 : Value),
 e =
 Ending.returned
 (Value.tuple #[Value.int IntKind.i64 x_11, x_12]) ∧
 I [Value.int IntKind.i64 (IntKind.i64.wrap (x + 1))] w'_4 ∧
 m [Value.int IntKind.i64 (IntKind.i64.wrap (x + 1))] w'_4 <
 m [Value.int IntKind.i64 x] w'))
 (∃ (p : Option Addr),
 ∃ (n_5 : Nat),
 ∃ (c : Nat),
 w1.cell? (Addr.mk n_3 (0 + 2) none) = some (Value.slice p n_5 c) ∧
 bsp (decide ((↑n_5 : Int) > 0))
 (∃ (p : Option Addr),
 ∃ (n_6 : Nat),
 ∃ (c : Nat),
 w1.cell? (Addr.mk n_3 (0 + 2) none) = some (Value.slice p n_6 c) ∧
 CallsS Tryz.prog 47 #[Value.slice p n_6 c] w1
 fun (e : Ending) (w'_2 : World) =>
 ∃ (x_8 : ByteArray),
 e = Ending.returned (Value.string x_8) ∧
 ∀ (n_7 : Nat) (w1 : World),
 NewB w'_2 (Obj.cells #[Value.string x_8] 9) n_7 w1 →
 ∃ (base : Nat),
 ∃ (xs : List Value),
 ∃ (news : List Value),
 w1.ownsRow base 9 1
 (Value.slice (some (Addr.mk n_4 0 none)) 3 3) 3 xs ∧
 news.length = 1 ∧
 SrcP w1 (some (Addr.mk n_7 0 none)) news ∧
 (4 : Nat) ≤ 9223372036854775807 ∧
 (64 : Nat) ≤ 140737488355328 ∧
 base ≤ w1.heap.size ∧
 ∀ (p' : Option Addr) (c' : Nat) (w'_3 : World),
 w'_3.ownsRow base 9 1 (Value.slice p' 4 c') 4
 (xs ++ news) →
 w1.grownBy w'_3
 (Value.slice (some (Addr.mk n_4 0 none)) 3
 3).ownBlock →
 AppL w1 (some (Addr.mk n_4 0 none)) 3 3 1 p' c' →
 CallsS Tryz.prog 49
 #[Value.slice p' 4 c',
 Value.string (ByteArray.mk #[32])]
 w'_3 fun (e : Ending) (w'_4 : World) =>
 ∃ (x_9 : ByteArray),
 e = Ending.returned (Value.string x_9) ∧
 CallsS Tryz.prog 48
 #[Value.pointer (some (Addr.mk n 0 none)),
 Value.string x_9]
 w'_4 fun (e : Ending) (w'_5 : World) =>
 ∃ (x_10 : Int),
 ∃ (x_11 : Value),
 e =
 Ending.returned
 (Value.tuple
 #[Value.int IntKind.i64 x_10, x_11]) ∧
 CallsS Tryz.prog 48
 #[Value.pointer (some (Addr.mk n 0 none)),
 Value.string (ByteArray.mk #[10])]
 w'_5 fun (e : Ending) (w'_6 : World) =>
 ∃ (x_12 : Int),
 ∃ (x_13 : Value),
 e =
 Ending.returned
 (Value.tuple
 #[Value.int IntKind.i64 x_12, x_13]) ∧
 I
 [Value.int IntKind.i64
 (IntKind.i64.wrap (x + 1))]
 w'_6 ∧
 m
 [Value.int IntKind.i64
 (IntKind.i64.wrap (x + 1))]
 w'_6 <
 m [Value.int IntKind.i64 x] w')
 (CallsS Tryz.prog 49
 #[Value.slice (some (Addr.mk n_4 0 none)) 3 3,
 Value.string (ByteArray.mk #[32])]
 w1 fun (e : Ending) (w'_2 : World) =>
 ∃ (x_8 : ByteArray),
 e = Ending.returned (Value.string x_8) ∧
 CallsS Tryz.prog 48
 #[Value.pointer (some (Addr.mk n 0 none)), Value.string x_8] w'_2
 fun (e : Ending) (w'_3 : World) =>
 ∃ (x_9 : Int),
 ∃ (x_10 : Value),
 e =
 Ending.returned (Value.tuple #[Value.int IntKind.i64 x_9, x_10]) ∧
 CallsS Tryz.prog 48
 #[Value.pointer (some (Addr.mk n 0 none)),
 Value.string (ByteArray.mk #[10])]
 w'_3 fun (e : Ending) (w'_4 : World) =>
 ∃ (x_11 : Int),
 ∃ (x_12 : Value),
 e =
 Ending.returned
 (Value.tuple #[Value.int IntKind.i64 x_11, x_12]) ∧
 I [Value.int IntKind.i64 (IntKind.i64.wrap (x + 1))] w'_4 ∧
 m [Value.int IntKind.i64 (IntKind.i64.wrap (x + 1))] w'_4 <
 m [Value.int IntKind.i64 x] w')))
 (CallsS Tryz.prog 50 #[Value.pointer (some (Addr.mk n 0 none))] w' fun (e : Ending) (w' : World) =>
 ∃ (x : ByteArray), e = Ending.returned (Value.string x) ∧ R (Ending.returned (Value.string x)) w')
theorem vc_acprint1 (b : Nat) (w : World) (R : Ending → World → Prop) (h : VC_acprint1 b w R) : Calls Tryz.prog 17 ([Value.pointer
    (some { block := b, off := 0 })] : List Value).toArray w R := by
  have e : execR { P := Tryz.prog, loops := [(3, [(11, Ck.int IntKind.i64)])], pur := pur1, tails := [], joins := [], boxes := [] } Tryz.f17.results.toList R (Tryz.f17.body.getD .skip) (initF [Value.pointer
    (some
      { block := b,
        off :=
          0 })] (Tryz.f17.ntmps - ([Value.pointer
    (some { block := b, off := 0 })] : List Value).length)) w = VC_acprint1 b w R := by kernel_rfl
  have hb : Tryz.f17.body = some (Tryz.f17.body.getD .skip) := by kernel_rfl
  exact calls_of_exec' (P := Tryz.prog) (fn := Tryz.f17) (c := Tryz.f17.body.getD .skip) (args := [Value.pointer
    (some { block := b, off := 0 })]) (w := w) (R := R) pur1_ok Tryz.func17 hb e h

end Go.Proofs.YtgmmoghagpmpfaaGreatDoor

/- Chapter 27: the contracts of rangesText and Print. The library's table of powers of ten reads as laid; sets are not too long. -/
namespace Go.Proofs.YtgmmoghagpmpfaaGreatDoor
open Go.RowKit Go.Maps Go.Sort

theorem i64_nat {x : Int} (h : 0 ≤ x ∧ x ≤ 2147483646) : I64 x := ⟨by omega, by omega⟩
theorem ivT_size {x : Iv} (h : 0 ≤ x.a ∧ x.a ≤ x.b ∧ x.b ≤ 2147483646) : (ivT x).size ≤ 43 := by
  have h1 := decI_size (i64_nat (x := x.a) (by omega))
  have h2 := decI_size (i64_nat (x := x.b) (by omega))
  unfold ivT
  split
  · rw [ByteArray.size_append, ByteArray.size_append, size_one]; omega
  · omega
theorem sumZ_iv {hi : Int} : ∀ {lo : Int} {l : List Iv}, 0 ≤ lo → hi ≤ 2147483646 → IvS hi lo l → sumZ (l.map ivT) ≤ 43 * l.length
  | _, [], _, _, _ => Nat.le_refl _
  | lo, x :: t, h0, hh, h => by
    obtain ⟨h1, h2, h3, h4⟩ := h
    have := sumZ_iv (by omega) hh h4
    have := ivT_size (x := x) (by omega)
    rw [List.map_cons, sumZ_cons, List.length_cons]; omega
theorem rngT_size {hi : Int} {l : List Iv} (hh : hi ≤ 2147483646) (h : IvS hi 1 l) : (rngT l).size ≤ 44 * l.length := by
  have h1 := joinT_size 44 (l.map ivT)
  have h2 := sumZ_iv (by omega) hh h
  rw [List.length_map] at h1
  unfold rngT; omega
set_option maxHeartbeats 1000000 in
theorem artext_any (l : List Iv) (p : Option Addr) (c : Nat) {hi : Int} (w : World) (hR : RowA ivC 2 w p l) (hiv : IvS hi 1 l) (hh : hi ≤ 2147483646) (hl : l.length ≤ 1000000) (hT : GT w) :
    Calls Tryz.prog 47 #[.slice p l.length c] w fun e w' => e = .returned (.string (rngT l)) ∧ K0 w w' := by
  refine vc_acrtext p l.length c w _ ?_
  refine ⟨fun vs w' => ∃ (i : Nat) (q : Option Addr) (d : Nat), vs = [.int .i64 (i : Int), .slice q i d] ∧ i ≤ l.length ∧ w'.ownsRow w.heap.size 9 1 (.slice q i d) i (((l.take i).map ivT).map Value.string) ∧ K0 w w',
    fun vs _ => (match vs with | .int _ a :: _ => l.length - a.toNat | _ => 0), ⟨0, none, 0, rfl, by omega, World.ownsRow_nil _ _ _ _, .refl _ _⟩, ?_⟩
  rintro x p1 n1 c1 w1 ⟨i, q, d, hv, hi1, ho, k1⟩
  simp only [List.cons.injEq, Value.int.injEq, Value.slice.injEq, true_and, and_true] at hv
  obtain ⟨rfl, rfl, rfl, rfl⟩ := hv
  refine bsp_intro (fun hlt => ?_) (fun hge => ?_)
  · have hlt : n1 < l.length := by simp at hlt; omega
    obtain ⟨z, zb, zo, hz, hzp, hzat⟩ := (hR.k0 k1).get hlt
    have hzz := hiv.mem z (List.mem_of_getElem? hz)
    have htk := take_snoc hz
    rw [Int.toNat_natCast]
    refine nn_is hzp ⟨⟨by omega, by omega⟩, z.a, z.b, hzat, fun n2 W hW => ?_⟩
    have k2 : K0 w1 W := hW.kk rfl
    have g2 : w1.heap.size ≤ n2 := hW.fresh 0 rfl rfl
    have c2 := hW.cells 0 rfl
    refine ⟨(digits_any z.a W (hT.k0 (k1.trans k2)) (i64_nat (by omega))).mono fun e w3 ⟨he, k3⟩ => ⟨_, he, .of_k0 k3, bsp_intro (fun hb => ?_) (fun hb => ?_)⟩⟩
    · have hb : z.a < z.b := by simpa using hb
      refine ⟨(digits_any z.b w3 (hT.k0 ((k1.trans k2).trans k3)) (i64_nat (by omega))).mono fun e w4 ⟨he, k4⟩ => ⟨_, he, .of_k0 k4, ?_, ?_, fun n3 W5 hW5 => ?_⟩⟩
      · have := decI_size (i64_nat (x := z.b) (by omega))
        rw [size_one]; exact nneg (by omega)
      · have := decI_size (i64_nat (x := z.b) (by omega))
        have := decI_size (i64_nat (x := z.a) (by omega))
        rw [ByteArray.size_append, size_one]; exact nneg (by omega)
      · have k5 : K0 w1 W5 := ((k2.trans k3).trans k4).trans (hW5.kk rfl)
        have ho5 := owns_kp ho k5 (fun _ _ h => h)
        have c25 : W5.heap[n2]? = _ := ((k3.trans k4).trans (hW5.kk rfl)).blk c2 (fun h => h)
        refine ⟨_, _, ho5, by omega, by omega, (k1.trans k5).size, fun p' c' w6 ho6 hg6 _ => ⟨.of_kp (kp_grown hg6) (fun k hk e => ?_), ⟨n1 + 1, p', c', by rw [inc64 (by omega)], hlt, ?_, (k1.trans k5).fresh (kp_grown hg6) (fun j hj e => by have := own_ge ho5 e; omega)⟩, by rw [inc64 (by omega)]; simp only [Int.toNat_natCast]; omega⟩⟩
        · simp only [List.mem_cons, List.not_mem_nil, or_false] at hk
          subst hk
          exact own_not ho5 c25 rfl e
        · have e1 : ivT z = decI z.a ++ (⟨#[45]⟩ ++ decI z.b) := by unfold ivT; rw [if_pos hb, ByteArray.append_assoc]
          have e2 : List.map Value.string (List.map ivT [z]) = [.string (decI z.a ++ (⟨#[45]⟩ ++ decI z.b))] := by show [Value.string (ivT z)] = _; rw [e1]
          rw [htk, List.map_append, List.map_append, e2]
          exact ho6
    · have hb : ¬ z.a < z.b := by simpa using hb
      intro n3 W5 hW5
      have k5 : K0 w1 W5 := (k2.trans k3).trans (hW5.kk rfl)
      have ho5 := owns_kp ho k5 (fun _ _ h => h)
      have c25 : W5.heap[n2]? = _ := (k3.trans (hW5.kk rfl)).blk c2 (fun h => h)
      refine ⟨_, _, ho5, by omega, by omega, (k1.trans k5).size, fun p' c' w6 ho6 hg6 _ => ⟨.of_kp (kp_grown hg6) (fun k hk e => ?_), ⟨n1 + 1, p', c', by rw [inc64 (by omega)], hlt, ?_, (k1.trans k5).fresh (kp_grown hg6) (fun j hj e => by have := own_ge ho5 e; omega)⟩, by rw [inc64 (by omega)]; simp only [Int.toNat_natCast]; omega⟩⟩
      · simp only [List.mem_cons, List.not_mem_nil, or_false] at hk
        subst hk
        exact own_not ho5 c25 rfl e
      · have e1 : ivT z = decI z.a := by unfold ivT; rw [if_neg hb]
        have e2 : List.map Value.string (List.map ivT [z]) = [.string (decI z.a)] := by show [Value.string (ivT z)] = _; rw [e1]
        rw [htk, List.map_append, List.map_append, e2]
        exact ho6
  · have hi2 : n1 = l.length := by simp at hge; omega
    subst hi2
    rw [List.take_length] at ho
    have hS : StrP w1 p1 (l.map ivT) := fun k z hk => by
      obtain ⟨g, v, h1, h2, h3⟩ := own_cell ho (show k < l.length by have := (List.getElem?_eq_some_iff.1 hk).1; simpa using this)
      rw [List.getElem?_map, hk] at h2
      simp at h2
      subst h2
      exact ⟨g, 0, h1, h3⟩
    have hj := join_any 44 (l.map ivT) p1 c1 w1 hS (by simp; omega) (by have := sumZ_iv (by omega) hh hiv; omega) (by simpa using own_le ho)
    rw [List.length_map] at hj
    exact ⟨hj.mono fun e w2 ⟨he, k2⟩ => ⟨_, he, .of_k0 k2, rfl, k1.trans k2⟩⟩

/-- Sizes of lines. -/
theorem lnT_size {s : ByteArray} {v : Gv} (h : LnOK s v) (hl : v.l.length ≤ 1000000) : (lnT (s, v)).size ≤ 44000200 ∧ sumZ (wdT s v) ≤ 44000150 ∧ (wdT s v).length ≤ 4 := by
  have h1 := name_size h.nm
  have h2 := decI_size (i64_nat (x := v.h) ⟨h.h0, h.hi⟩)
  have h3 : (ynT v.c).size = 1 := by unfold ynT; split <;> rfl
  have h4 := rngT_size h.hi h.iv
  have h5 : sumZ (wdT s v) ≤ 44000150 ∧ (wdT s v).length ≤ 4 := by
    unfold wdT
    cases hv : v.l with
    | nil => simp only [sumZ, List.map_cons, List.map_nil, List.sum_cons, List.sum_nil, List.length_cons, List.length_nil]; omega
    | cons x t =>
      rw [hv] at h4 hl
      simp only [sumZ, List.map_cons, List.map_nil, List.sum_cons, List.sum_nil, List.length_cons, List.length_nil] at h4 hl ⊢
      omega
  refine ⟨?_, h5⟩
  have h6 := joinT_size 32 (wdT s v)
  unfold lnT
  rw [ByteArray.size_append, size_one]
  show (joinT 32 (wdT s v)).size + 1 ≤ _
  omega
theorem prT_size : ∀ {A : TA}, (∀ p ∈ A, LnOK p.1 p.2 ∧ p.2.l.length ≤ 1000000) → (prT A).size ≤ 44000200 * A.length
  | [], _ => Nat.le_refl _
  | p :: A, h => by
    have h1 : (lnT p).size ≤ 44000200 := (lnT_size (h p List.mem_cons_self).1 (h p List.mem_cons_self).2).1
    have h2 := prT_size (fun q hq => h q (List.mem_cons_of_mem _ hq))
    rw [prT_cons, ByteArray.size_append, List.length_cons]
    omega
theorem owns_same {w w' : World} {base : Nat} {e : TypeId} {size : Nat} {v : Value} {n : Nat} {xs : List Value} (h : w.ownsRow base e size v n xs) (hk : ∀ k, v.ownBlock = some k → w'.heap[k]? = w.heap[k]?) : w'.ownsRow base e size v n xs := by
  refine ⟨h.1, ?_⟩
  rcases h.2 with h2 | ⟨g, cap, cur, hv, hb, hg, h4⟩
  · exact .inl h2
  · exact .inr ⟨g, cap, cur, hv, hb, by rw [hk g (by rw [hv]; rfl)]; exact hg, h4⟩
theorem strP_own {w : World} {base n c : Nat} {p : Option Addr} {l : List ByteArray} (h : w.ownsRow base 9 1 (.slice p n c) n (l.map Value.string)) (hn : l.length ≤ n) : StrP w p l := fun k z hk => by
  obtain ⟨g, v, h1, h2, h3⟩ := own_cell h (show k < n by have := (List.getElem?_eq_some_iff.1 hk).1; omega)
  rw [List.getElem?_map, hk] at h2
  simp at h2
  subst h2
  exact ⟨g, 0, h1, h3⟩
section
variable {w : World} {B b mb : Nat} {m : TM} {A : TA}
theorem strP_lit {w : World} {n : Nat} {zs : List ByteArray} {t : TypeId} {f : Nat × Nat} (h : w.heap[n]? = some (.cells (zs.map Value.string).toArray t f)) : StrP w (some ⟨n, 0, none⟩) zs := fun j z hj => ⟨n, 0, rfl, by rw [Nat.zero_add, cell_block h]; simp [hj]⟩
theorem own_lit {w : World} {n B : Nat} {zs : List Value} {t : TypeId} (h : w.heap[n]? = some (.cells zs.toArray t (0, 0))) (hB : B ≤ n) (hl : zs.length ≤ 1000) : w.ownsRow B t 1 (.slice (some ⟨n, 0, none⟩) zs.length zs.length) zs.length zs :=
  ⟨by simp, .inr ⟨n, zs.length, zs.toArray, rfl, hB, h, Nat.le_refl _, by unfold maxLen; omega, by simp, by simp⟩⟩
set_option maxHeartbeats 4000000 in
theorem acprint_any (h : Tq w B b mb m A) (hG : GW w) (hT : GT w) (hl : ∀ p ∈ A, p.2.l.length ≤ 1000000) : Calls Tryz.prog 17 #[.pointer (some ⟨b, 0, none⟩)] w fun e w' => e = .returned (.string (prT A)) ∧ K0 w w' := by
  have hln : ∀ p ∈ A, LnOK p.1 p.2 ∧ p.2.l.length ≤ 1000000 := fun p hp => ⟨h.wf.ln hp, hl p hp⟩
  refine vc_acprint1 b w _ (fun n W hW => ?_)
  have kW : K0 w W := hW.kp _
  have gn : w.heap.size ≤ n := hW.ge
  have hB0 := Bld.new hW.block
  have ln := hB0.lt
  refine ⟨(acgroups_any (h.k0 kW) (hG.kp kW (fun h => h))).mono fun e w1 ⟨⟨p, c, he, ho⟩, k1⟩ => ⟨_, _, _, he, ?_⟩⟩
  have hal : (A.map (·.1)).length = A.length := by simp
  rw [hal]
  rw [hal] at ho
  obtain ⟨I, hI⟩ : ∃ I : List Value → World → Prop, I = fun vs w' => ∃ i : Nat, vs = [.int .i64 (i : Int)] ∧ i ≤ A.length ∧ Bld n (prT (A.take i)) w' ∧ w'.ownsRow W.heap.size 9 1 (.slice p A.length c) A.length ((A.map (·.1)).map Value.string) ∧ K0 w w' := ⟨_, rfl⟩
  obtain ⟨M, hM⟩ : ∃ M : List Value → World → Nat, M = fun vs _ => (match vs with | .int _ a :: _ => A.length - a.toNat | _ => 0) := ⟨_, rfl⟩
  refine ⟨I, M, by rw [hI]; exact ⟨0, rfl, by omega, hB0.k0 k1, ho, kW.trans k1⟩, ?_⟩
  intro x w2 hx
  have hx' := hx
  rw [hI] at hx'
  obtain ⟨i, hv, hi, hB2, ho2, k2⟩ := hx'
  simp only [List.cons.injEq, Value.int.injEq, true_and, and_true] at hv
  subst hv
  have hA4 := h.len
  refine bsp_intro (fun hlt => ?_) (fun hge => ?_)
  · have hlt : i < A.length := by simp at hlt; omega
    obtain ⟨pr, hpr⟩ : ∃ y, A[i]? = some y := ⟨_, List.getElem?_eq_getElem hlt⟩
    obtain ⟨s, v⟩ := pr
    have hmem := List.mem_of_getElem? hpr
    have hok : LnOK s v := (hln _ hmem).1
    have hvl : v.l.length ≤ 1000000 := (hln _ hmem).2
    obtain ⟨z1, z2, z3⟩ := lnT_size hok hvl
    have hsz := prT_size (A := A.take i) (fun q hq => hln q (List.take_subset _ _ hq))
    have hsz2 : 44000200 * (A.take i).length ≤ 44000200 * 4096 := Nat.mul_le_mul_left _ (by rw [List.length_take]; omega)
    have hns : (A.map (·.1))[i]? = some s := by rw [List.getElem?_map, hpr]; rfl
    obtain ⟨s', sb, so, hs', hp, hc⟩ := (strP_own ho2 (by simp)).get (show i < (A.map (·.1)).length by simpa using hlt)
    rw [hns] at hs'
    cases hs'
    have h2 := h.k0 k2
    have hgA : aget A s = some v := aget_at h.wf.dis hmem
    have hgm := h.get s
    rw [hgA] at hgm
    cases hy : aget m s with
    | none => rw [hy] at hgm; cases hgm
    | some y =>
      rw [hy] at hgm
      have hyv : v = y.v := Option.some.inj hgm
      subst hyv
      have hss : s.size ≤ 80 := name_size hok.nm
      have hlk : LookP Tryz.prog 97 (.map (some mb)) (.string s) false (gxV y) w2 := by
        have := h2.z.look0 (g := s) (by omega)
        rw [hy] at this
        exact this
      rw [Int.toNat_natCast]
      refine nn_is hp ⟨⟨by omega, by omega⟩, s, hc, some mb, h2.z.cM, y.v.h, y.v.c, y.p, y.v.l.length, y.c, hlk, fun n3 wa ha => ⟨WrL_block ha.block (by show 0 + 3 ≤ 3; omega), fun wb hb => ?_⟩⟩
      have c3 : wb.heap[n3]? = some (.cells #[.int .i64 y.v.h, .bool y.v.c, .slice y.p y.v.l.length y.c] 94 (0, 0)) := hb.full ha.block rfl
      have g3 : w2.heap.size ≤ n3 := ha.ge
      have k2b : K0 w2 wb := put_k0 (ha.kp _) hb g3
      refine ⟨y.v.h, cell_at c3 rfl, ⟨(digits_any y.v.h wb (hT.k0 (k2.trans k2b)) (i64_nat ⟨hok.h0, hok.hi⟩)).mono fun e w4 ⟨he, k4⟩ => ⟨_, he, fun n4 w5 h5 => ?_⟩⟩⟩
      have k25 : K0 w2 w5 := (k2b.trans k4).trans (h5.kp _)
      have c35 := ((k4.trans (h5.kp _)).blk c3 (fun h => h))
      have c45 := h5.block
      have g4 : w2.heap.size ≤ n4 := Nat.le_trans (k2b.trans k4).size h5.ge
      have g43 : n3 < n4 := Nat.lt_of_lt_of_le (block_lt (k4.blk c3 (fun h => h))) h5.ge
      -- the tail of a line
      have tail : ∀ {W5 : World} (ws : List ByteArray) (q : Option Addr) (kk cc : Nat), kk = ws.length → StrP W5 q ws → ws = wdT s y.v → ws.length ≤ cc → K0 w2 W5 →
          CallsS Tryz.prog 49 #[.slice q kk cc, .string ⟨#[32]⟩] W5 fun e w' => ∃ x_6, e = .returned (.string x_6) ∧ CallsS Tryz.prog 48 #[.pointer (some ⟨n, 0, none⟩), .string x_6] w' fun e w'_3 => ∃ x_7 x_8, e = .returned (.tuple #[.int .i64 x_7, x_8]) ∧
            CallsS Tryz.prog 48 #[.pointer (some ⟨n, 0, none⟩), .string ⟨#[10]⟩] w'_3 fun e w'_4 => ∃ x_9 x_10, e = .returned (.tuple #[.int .i64 x_9, x_10]) ∧ I [.int .i64 (IntKind.i64.wrap ((i : Int) + 1))] w'_4 ∧ M [.int .i64 (IntKind.i64.wrap ((i : Int) + 1))] w'_4 < M [.int .i64 (i : Int)] w2 := by
        intro W5 ws q kk cc hkk hS5 hws hcc k5
        subst hkk
        subst hws
        refine ⟨(join_any 32 (wdT s y.v) q cc W5 hS5 (by omega) (by omega) hcc).mono fun e w6 ⟨he, k6⟩ => ⟨_, he, ?_⟩⟩
        have k26 := k5.trans k6
        have hjs := joinT_size 32 (wdT s y.v)
        have hB6 := hB2.k0 k26
        refine ⟨(hB6.write (joinT 32 (wdT s y.v)) (by omega)).mono fun e w7 ⟨he, hB7, k7, f7⟩ => ⟨_, _, he, ?_⟩⟩
        refine ⟨(hB7.write ⟨#[10]⟩ (by rw [ByteArray.size_append, size_one]; omega)).mono fun e w8 ⟨he, hB8, k8, f8⟩ => ⟨_, _, he, ?_, ?_⟩⟩
        · rw [inc64 (by omega), hI]
          refine ⟨i + 1, rfl, hlt, ?_, ?_, ((k2.trans k26).fresh k7 (fun j hj e => by omega)).fresh k8 (fun j hj e => by omega)⟩
          · rw [take_snoc hpr, prT_snoc]
            unfold lnT
            rw [← ByteArray.append_assoc]
            exact hB8
          · have ho6 := owns_kp ho2 k26 (fun _ _ h => h)
            have ho7 : w7.ownsRow W.heap.size 9 1 (.slice p A.length c) A.length ((A.map (·.1)).map Value.string) := owns_same ho6 (fun k hk => by
              obtain ⟨cc', hcc'⟩ := own_type ho6 hk
              exact f7 k _ _ _ hcc' (by have := own_ge ho6 hk; omega) (by decide))
            exact owns_same ho7 (fun k hk => by
              obtain ⟨cc', hcc'⟩ := own_type ho7 hk
              exact f8 k _ _ _ hcc' (by have := own_ge ho7 hk; omega) (by decide))
        · rw [inc64 (by omega), hM]
          show A.length - ((i + 1 : Nat) : Int).toNat < A.length - ((i : Nat) : Int).toNat
          simp only [Int.toNat_natCast]; omega
      -- a line whose three words lie
      have rest : ∀ {W5 : World}, K0 w2 W5 → W5.heap[n3]? = some (.cells #[.int .i64 y.v.h, .bool y.v.c, .slice y.p y.v.l.length y.c] 94 (0, 0)) → W5.heap[n4]? = some (.cells #[.string s, .string (decI y.v.h), .string (ynT y.v.c)] 9 (0, 0)) →
          (∃ (p : Option Addr) (n_5 c : Nat), W5.cell? ⟨n3, 0 + 2, none⟩ = some (.slice p n_5 c) ∧
            bsp (decide ((n_5 : Int) > 0)) (∃ (p : Option Addr) (n_6 c : Nat), W5.cell? ⟨n3, 0 + 2, none⟩ = some (.slice p n_6 c) ∧
              CallsS Tryz.prog 47 #[.slice p n_6 c] W5 fun e w'_2 => ∃ x_8, e = .returned (.string x_8) ∧
                ∀ (n_7 : Nat) (w1 : World), NewB w'_2 (.cells #[.string x_8] 9) n_7 w1 → ∃ (base : Nat) (xs news : List Value), w1.ownsRow base 9 1 (.slice (some ⟨n4, 0, none⟩) 3 3) 3 xs ∧ news.length = 1 ∧ SrcP w1 (some ⟨n_7, 0, none⟩) news ∧ (4 : Nat) ≤ 9223372036854775807 ∧ (64 : Nat) ≤ 140737488355328 ∧ base ≤ w1.heap.size ∧
                ∀ (p' : Option Addr) (c' : Nat) (w'_3 : World), w'_3.ownsRow base 9 1 (.slice p' 4 c') 4 (xs ++ news) → w1.grownBy w'_3 (Value.slice (some ⟨n4, 0, none⟩) 3 3).ownBlock → AppL w1 (some ⟨n4, 0, none⟩) 3 3 1 p' c' →
                CallsS Tryz.prog 49 #[.slice p' 4 c', .string ⟨#[32]⟩] w'_3 fun e w' => ∃ x_6, e = .returned (.string x_6) ∧ CallsS Tryz.prog 48 #[.pointer (some ⟨n, 0, none⟩), .string x_6] w' fun e w'_3 => ∃ x_7 x_8, e = .returned (.tuple #[.int .i64 x_7, x_8]) ∧
            CallsS Tryz.prog 48 #[.pointer (some ⟨n, 0, none⟩), .string ⟨#[10]⟩] w'_3 fun e w'_4 => ∃ x_9 x_10, e = .returned (.tuple #[.int .i64 x_9, x_10]) ∧ I [.int .i64 (IntKind.i64.wrap ((i : Int) + 1))] w'_4 ∧ M [.int .i64 (IntKind.i64.wrap ((i : Int) + 1))] w'_4 < M [.int .i64 (i : Int)] w2)
            (CallsS Tryz.prog 49 #[.slice (some ⟨n4, 0, none⟩) 3 3, .string ⟨#[32]⟩] W5 fun e w' => ∃ x_6, e = .returned (.string x_6) ∧ CallsS Tryz.prog 48 #[.pointer (some ⟨n, 0, none⟩), .string x_6] w' fun e w'_3 => ∃ x_7 x_8, e = .returned (.tuple #[.int .i64 x_7, x_8]) ∧
            CallsS Tryz.prog 48 #[.pointer (some ⟨n, 0, none⟩), .string ⟨#[10]⟩] w'_3 fun e w'_4 => ∃ x_9 x_10, e = .returned (.tuple #[.int .i64 x_9, x_10]) ∧ I [.int .i64 (IntKind.i64.wrap ((i : Int) + 1))] w'_4 ∧ M [.int .i64 (IntKind.i64.wrap ((i : Int) + 1))] w'_4 < M [.int .i64 (i : Int)] w2)) := by
        intro W5 k5 d3 d4
        have hd4 : W5.heap[n4]? = some (.cells (([s, decI y.v.h, ynT y.v.c].map Value.string).toArray) 9 (0, 0)) := d4
        refine ⟨y.p, y.v.l.length, y.c, cell_at d3 rfl, bsp_intro (fun hb => ?_) (fun hb => ?_)⟩
        · have hb : 0 < y.v.l.length := by simp at hb; omega
          have ew : wdT s y.v = [s, decI y.v.h, ynT y.v.c, rngT y.v.l] := by
            unfold wdT
            cases hv : y.v.l with
            | nil => rw [hv] at hb; cases hb
            | cons a t => rfl
          refine ⟨y.p, y.v.l.length, y.c, cell_at d3 rfl, ⟨(artext_any y.v.l y.p y.c W5 ((h.rowOf hy).k0 (k2.trans k5)) hok.iv hok.hi hvl (hT.k0 (k2.trans k5))).mono fun e w6 ⟨he, k6⟩ => ⟨_, he, fun n7 w7 h7 => ?_⟩⟩⟩
          have k57 : K0 W5 w7 := k6.trans (h7.kp _)
          have ho7 := own_lit (B := w2.heap.size) (zs := [s, decI y.v.h, ynT y.v.c].map Value.string) (k57.blk hd4 (fun h => h)) g4 (by simp)
          refine ⟨w2.heap.size, _, [.string (rngT y.v.l)], ho7, rfl, src_block h7.block (by intro u hu; simp at hu; subst hu; rfl), by omega, by omega, (k5.trans k57).size, fun p' c' w8 ho8 hg8 _ => ?_⟩
          have k28 : K0 w2 w8 := (k5.trans k57).fresh (kp_grown hg8) (fun j hj e => by have := own_ge ho7 e; omega)
          refine tail [s, decI y.v.h, ynT y.v.c, rngT y.v.l] p' 4 c' rfl (strP_own (l := [s, decI y.v.h, ynT y.v.c, rngT y.v.l]) ho8 (by simp)) ew.symm (own_le ho8) k28
        · have hb : y.v.l = [] := List.eq_nil_of_length_eq_zero (by simp at hb; simp [hb])
          have ew : wdT s y.v = [s, decI y.v.h, ynT y.v.c] := by unfold wdT; rw [hb]
          exact tail [s, decI y.v.h, ynT y.v.c] (some ⟨n4, 0, none⟩) 3 3 rfl (strP_lit hd4) ew.symm (Nat.le_refl _) k5
      refine ⟨y.v.c, cell_at c35 rfl, bsp_intro (fun hb => ?_) (fun hb => ?_)⟩
      · refine ⟨⟨by omega, by omega⟩, cell_wr c45 (by show 2 < 3; omega), fun w6 hp6 => ?_⟩
        have k26 : K0 w2 w6 := put_k0 k25 hp6 g4
        refine rest k26 (hp6.kp.blk c35 (fun e => by omega)) ?_
        rw [hp6.block c45]
        have : ynT y.v.c = ⟨#[110]⟩ := by rw [hb]; rfl
        rw [this]; rfl
      · refine rest k25 c35 ?_
        rw [c45]
        have : ynT y.v.c = ⟨#[121]⟩ := by rw [hb]; rfl
        rw [this]
  · have hi2 : i = A.length := by simp at hge; omega
    subst hi2
    rw [List.take_length] at hB2
    exact ⟨hB2.text.mono fun e w5 ⟨he, k5⟩ => ⟨_, he, rfl, k2.fresh k5 (fun j hj e => by omega)⟩⟩
end

end Go.Proofs.YtgmmoghagpmpfaaGreatDoor
