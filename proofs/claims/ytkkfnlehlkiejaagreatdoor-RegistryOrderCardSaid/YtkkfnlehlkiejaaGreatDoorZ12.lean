/- Chapter 21: the contracts of a registry's Clone and Equal. Lists that are not too long. -/
import Derived.Test.YtkkfnlehlkiejaaGreatDoorZ11
import Derived.Test.YtkkfnlehlkiejaaGreatDoorZ08
import Derived.Test.YtkkfnlehlkiejaaGreatDoorZ09
import Derived.Test.YtkkfnlehlkiejaaGreatDoorProg
import Derived.Test.YtkkfnlehlkiejaaGreatDoorZ02
import Derived.Test.YtkkfnlehlkiejaaGreatDoorZ03
import Derived.Test.YtkkfnlehlkiejaaGreatDoorZ07
import Derived.KernelRfl
namespace Go.Proofs.YtkkfnlehlkiejaaGreatDoor
open Go.RowKit Go.Sort Go.Maps

/-! ### Authorities compared, lists copied -/
theorem atKey (x : Au) (hb : BY x.au) (hs : x.pt.size ≤ 1073741824) (D : Nat) : Tryz.prog.keyLits (D + 3) 94 (atC x) = some ([.string x.pt.data.toList] ++ (auI x.au).map (Lit.int .u8)) := by
  unfold Program.keyLits
  rw [Tryz.underlying94]
  simp only
  have c0 : Tryz.prog.cellsOf 94 = 17 := by kernel_rfl
  rw [if_pos ⟨by rw [c0]; rfl, by decide +kernel⟩]
  have h1 := keyLits_bytes (P := Tryz.prog) (t := 53) (e := 5) (n := 16) Tryz.underlying53 Tryz.underlying5 (by kernel_rfl) (by kernel_rfl) (auI_len x.au) (auI_bd hb) D
  have h2 : Tryz.prog.keyLits (D + 2) 9 [.string x.pt] = some [.string x.pt.data.toList] := by
    unfold Program.keyLits
    rw [Tryz.underlying9]
    simp only
    rw [if_pos (by unfold maxLen; omega)]
  have c1 : Tryz.prog.cellsOf 53 = 16 := by kernel_rfl
  have c2 : Tryz.prog.cellsOf 9 = 1 := by kernel_rfl
  simp only [List.mapM_cons, List.mapM_nil, c1, c2]
  have e1 : ((atC x).drop 0).take 1 = [.string x.pt] := rfl
  have e2 : ((atC x).drop 1).take 16 = (auI x.au).map (Value.int .u8) := rfl
  rw [e1, e2, h1, h2]
  simp
theorem atEq (x : Au) (hb : BY x.au) (hs : x.pt.size ≤ 1073741824) : EqP Tryz.prog 94 (.agg (atC x).toArray) (.agg (atC x).toArray) true := by
  have hkey : keyOf Tryz.prog 94 (.agg (atC x).toArray) = some (.string (keyBytes ([.string x.pt.data.toList] ++ (auI x.au).map (Lit.int .u8)))) := by
    unfold keyOf
    rw [Tryz.underlying94]
    simp only
    have h1 : Tryz.prog.keyType 94 = true := by kernel_rfl
    have hf' : (Value.agg (atC x).toArray).formed Tryz.prog 94 = true := by
      unfold Value.formed
      rw [Tryz.underlying94]
      have c0 : Tryz.prog.cellsOf 94 = 17 := by kernel_rfl
      simp only
      rw [c0]; rfl
    rw [h1, hf']
    have h2 := atKey x hb hs (Tryz.prog.types.size - 2)
    have hsz : 2 ≤ Tryz.prog.types.size := by decide +kernel
    have e2 : Tryz.prog.types.size - 2 + 3 = Tryz.prog.types.size + 1 := by omega
    rw [e2] at h2
    have : (Value.agg (atC x).toArray).cells.toList = atC x := by simp [Value.cells]
    rw [this, h2]
    rfl
  refine ⟨fun w => ?_, by kernel_rfl, _, _, rfl, rfl⟩
  obtain ⟨r, hr, hi⟩ := run_equal_deep w (m := 3) (by omega) (by kernel_rfl) (by rw [Tryz.underlying94]) hkey hkey
  rw [hr, hi.2 rfl]
theorem aueq_any (A : List Au) (p : Option Addr) (c : Nat) (q : Option Addr) (d : Nat) (w : World) (hp : RowA atC 17 w p A) (hq : RowA atC 17 w q A) (hb : ∀ x ∈ A, BY x.au) (hs : ∀ x ∈ A, x.pt.size ≤ 1073741824) (hl : A.length ≤ 64) :
    Calls Tryz.prog 63 #[.slice p A.length c, .slice q A.length d] w fun e w' => e = .returned (.bool true) ∧ K0 w w' := by
  refine vc_aueq p A.length c q A.length d w _ (bsp_intro (fun h => by simp at h) (fun _ => ?_))
  refine ⟨fun vs w' => ∃ i : Nat, vs = [.int .i64 (i : Int)] ∧ i ≤ A.length ∧ K0 w w', fun vs _ => (match vs with | .int _ a :: _ => A.length - a.toNat | _ => 0), ⟨0, rfl, by omega, .refl _ _⟩, ?_⟩
  rintro x w1 ⟨i, hv, hi, k1⟩
  simp only [List.cons.injEq, Value.int.injEq, true_and, and_true] at hv
  subst hv
  refine bsp_intro (fun hlt => ?_) (fun hge => ⟨rfl, k1⟩)
  have hlt : i < A.length := by simp at hlt; omega
  obtain ⟨x, b, o, hx, hpb, hat⟩ := (hp.k0 k1).get hlt
  obtain ⟨y, b2, o2, hy, hqb, hat2⟩ := (hq.k0 k1).get hlt
  obtain rfl : x = y := Option.some.inj (hx.symm.trans hy)
  have hxm := List.mem_of_getElem? hx
  rw [Int.toNat_natCast]
  refine nn_is hpb ⟨⟨by omega, by omega⟩, x.pt, x.au, fun W hW => hat.k0 (hW.kk rfl), nn_is hqb ⟨⟨by omega, by omega⟩, x.pt, x.au, fun W hW => hat2.k0 (hW.kk rfl), true, atEq x (hb x hxm) (hs x hxm), bsp_intro (fun h => by cases h) (fun _ => fun W hW => ⟨⟨i + 1, by rw [inc64 (by omega)], hlt, k1.trans (hW.kk rfl)⟩, by rw [inc64 (by omega)]; simp only [Int.toNat_natCast]; omega⟩)⟩⟩
def lpC (b : Nat) : List Value := [.pointer (some ⟨b, 0, none⟩)]
/-- The lists of a registry as a row of pointers. -/
theorem RegS.row {w : World} {b mb : Nat} {A : List Au} (h : RegS w b mb A) : ∃ (ap : Option Addr) (ac : Nat) (lp : Option Addr) (lc : Nat) (lbs : List Nat), w.heap[b]? = some (.cells #[.slice ap A.length ac, .slice lp A.length lc, .map (some mb)] 99 (0, 0)) ∧ RowA atC 17 w ap A ∧ lbs.length = A.length ∧ RowA lpC 1 w lp lbs ∧
    ∀ (k : Nat) (x : Au) (lb : Nat), A[k]? = some x → lbs[k]? = some lb → ∃ es, listR x.pt = .inl es ∧ ListR (fun _ => True) w lb x.pt es := by
  obtain ⟨ap, ac, lp, lc, h1, h2, h3⟩ := h
  have key : ∀ i, i < A.length → ∃ lb : Nat, (∃ g o, lp = some ⟨g, o, none⟩ ∧ w.cell? ⟨g, o + i, none⟩ = some (.pointer (some ⟨lb, 0, none⟩))) ∧ ∀ x, A[i]? = some x → ∃ es, listR x.pt = .inl es ∧ ListR (fun _ => True) w lb x.pt es := fun i hi => by
    obtain ⟨g, o, lb, es, a1, a2, a3, a4⟩ := h3 i A[i] (List.getElem?_eq_getElem hi)
    refine ⟨lb, ⟨g, o, a1, a2⟩, fun x hx => ?_⟩
    rw [List.getElem?_eq_getElem hi] at hx
    cases hx
    exact ⟨es, a3, a4⟩
  obtain ⟨lbs, hlen, hL⟩ := list_of key
  refine ⟨ap, ac, lp, lc, lbs, h1, h2, hlen, fun k lb hk => ?_, fun k x lb hx hlb => (hL k lb hlb).2 x hx⟩
  obtain ⟨g, o, a1, a2⟩ := (hL k lb hk).1
  exact ⟨g, o, a1, ⟨At_of _ _ fun j v hv => by
    have hj : j = 0 := by
      have := (List.getElem?_eq_some_iff.1 hv).1
      simp [lpC] at this; exact this
    subst hj
    simp [lpC] at hv
    subst hv
    simpa using a2⟩⟩
theorem RegS.of {w : World} {b mb : Nat} {A : List Au} {ap : Option Addr} {ac : Nat} {lp : Option Addr} {lc : Nat} {lbs : List Nat} (h1 : w.heap[b]? = some (.cells #[.slice ap A.length ac, .slice lp A.length lc, .map (some mb)] 99 (0, 0))) (h2 : RowA atC 17 w ap A) (h3 : lbs.length = A.length) (h4 : RowA lpC 1 w lp lbs)
    (h5 : ∀ (k : Nat) (x : Au) (lb : Nat), A[k]? = some x → lbs[k]? = some lb → ∃ es, listR x.pt = .inl es ∧ ListR (fun _ => True) w lb x.pt es) : RegS w b mb A := by
  refine ⟨ap, ac, lp, lc, h1, h2, fun k x hx => ?_⟩
  have hk := (List.getElem?_eq_some_iff.1 hx).1
  obtain ⟨lb, g, o, hlb, hp, hat⟩ := h4.get (k := k) (by omega)
  obtain ⟨es, a1, a2⟩ := h5 k x lb hx hlb
  exact ⟨g, o, lb, es, hp, by have := hat.cell (j := 0) (v := .pointer (some ⟨lb, 0, none⟩)) rfl; simpa using this, a1, a2⟩

/-! ### Clone -/
/-- The entries of the one are entries of the other. -/
def EqM (l1 l2 : List (List Int × DX)) : Prop := l1.length = l2.length ∧ ∀ a x, aget l1 a = some x → ∃ y, aget l2 a = some y ∧ y.d = x.d
theorem Reg.dis {w : World} {b mb : Nat} {A : List Au} {l : List (List Int × DX)} (h : Reg w b mb A l) : l.Pairwise fun p q => p.1 ≠ q.1 := by
  have := h.map.dis
  unfold amap at this
  rw [List.pairwise_map] at this
  exact this
end Go.Proofs.YtkkfnlehlkiejaaGreatDoor

/- Chapter 21: the contract of a registry's Equal. -/
namespace Go.Proofs.YtkkfnlehlkiejaaGreatDoor
open Go.RowKit Go.Sort Go.Maps

def okM (l2 : List (List Int × DX)) (p : List Int × DX) : Bool := match aget l2 p.1 with | some y => dEq p.2.d y.d | none => false
def eqM (l1 l2 : List (List Int × DX)) : Bool := decide (l1.length = l2.length) && l1.all (okM l2)
set_option maxRecDepth 100000 in
set_option maxHeartbeats 4000000 in
theorem mapeq_any {w : World} {b1 m1 b2 m2 : Nat} {A : List Au} {l1 l2 : List (List Int × DX)} (h1 : Reg w b1 m1 A l1) (h2 : Reg w b2 m2 A l2) :
    Calls Tryz.prog 64 #[.map (some m1), .map (some m2), .func (.func 27) #[] #[]] w fun e w' => e = .returned (.bool (eqM l1 l2)) ∧ K0 w w' := by
  refine vc_mapeq (some m1) (some m2) 27 #[] #[] w _ ⟨_, h1.len, _, h2.len, bsp_intro (fun h => ?_) (fun h => ?_)⟩
  · have h : ¬ l1.length = l2.length := fun e => by rw [e] at h; simp at h
    refine ⟨?_, .refl _ _⟩
    unfold eqM
    rw [decide_eq_false h]; rfl
  have hle : l1.length = l2.length := by simp at h; omega
  obtain ⟨r, w1, hrun, hR, k1, gr, rlt⟩ := h1.map.range (t := 96) Tryz.underlying96
  have hm1 := h1.map.lt
  have hm2 := h2.map.lt
  refine ⟨r, w1, hrun, .of_k0 k1, ?_⟩
  refine ⟨fun vs w' => ∃ todo : List (List Int × DX), vs = [] ∧ RngB byA w' r m1 (amap dfV todo) ∧ todo.Sublist l1 ∧ l1.all (okM l2) = todo.all (okM l2) ∧ Kp (· = r) w1 w',
    fun _ w' => leftN w' r m1, ⟨l1, rfl, hR, .refl _, rfl, .refl _ _⟩, ?_⟩
  rintro w4 ⟨todo, _, hR4, hsub, hall, k4⟩
  have kw4 : K0 w w4 := k1.fresh k4 (fun j hj e => by omega)
  rcases hR4.next (P := Tryz.prog) with ⟨hnil, hnx⟩ | ⟨j, q, w5, hj, hnx, hent, hR5, k5⟩
  · have htodo : todo = [] := by
      cases todo with
      | nil => rfl
      | cons x t => simp [amap] at hnil
    subst htodo
    refine ⟨false, [], w4, hnx, .of_k0 (.refl _ _), bsp_intro (fun h => by cases h) (fun _ => ⟨?_, kw4⟩)⟩
    unfold eqM
    rw [hall, decide_eq_true hle]; rfl
  · have hj' : ((todo.map fun p => (p.1, dfV p.2)))[j]? = some q := hj
    rw [List.getElem?_map, Option.map_eq_some_iff] at hj'
    obtain ⟨q, hqj, rfl⟩ := hj'
    have hqt := List.mem_of_getElem? hqj
    have hmem : q ∈ l1 := hsub.subset hqt
    have hget : aget l1 q.1 = some q.2 := aget_at h1.dis hmem
    obtain ⟨z0, z1, z2, z3⟩ := h1.ok q.1 q.2 hget
    have hz8 := (dchk_sz z0).2.2.2.1
    have her : (amap dfV todo).eraseIdx j = amap dfV (todo.eraseIdx j) := by unfold amap; rw [map_erase']
    rw [her] at hR5
    have hjl := (List.getElem?_eq_some_iff.1 hqj).1
    have helen : (todo.eraseIdx j).length = todo.length - 1 := List.length_eraseIdx_of_lt hjl
    have hl4 := hR4.left
    have hlam : (amap dfV todo).length = todo.length := by simp [amap]
    have hlam5 : (amap dfV (todo.eraseIdx j)).length = todo.length - 1 := by simp [amap, helen]
    have kw5 : K0 w w5 := kw4.fresh k5 (fun j hj e => by omega)
    have hall2 : todo.all (okM l2) = (okM l2 q && (todo.eraseIdx j).all (okM l2)) := by
      have := (erase_perm todo j q hqj).all_eq (f := okM l2)
      rw [← this]; rfl
    have hfalse : okM l2 q = false → eqM l1 l2 = false := fun h => by
      unfold eqM
      rw [hall, hall2, h]; simp
    have hent : EntP Tryz.prog (.pointer (some ⟨r, 0, none⟩)) (.tuple #[byA q.1, dfV q.2]) w5 := hent
    rw [z2] at hent
    refine ⟨true, _, w5, hnx, .of_kp k5 (fun y hy => by cases hy), bsp_intro (fun _ => ?_) (fun h => by cases h)⟩
    refine ⟨q.2.d.id, q.2.d.id, q.2.d.au, q.2.d.g, q.2.d.v, q.2.d.rm, q.2.d.md, q.2.p, q.2.d.ms.length, q.2.c, q.2.d.tx, hent, fun n5 n6 => ?_⟩
    have hlk : ∀ W, K0 w W → LookP Tryz.prog 96 (.map (some m2)) (.agg (arrI .u8 q.2.d.id 32 0).toArray) true (.tuple #[dfV ((aget l2 q.1).getD dxz), .bool (aget l2 q.1).isSome]) W := fun W k => by
      rw [z2]; exact (h2.k0 k).look z3.id
    cases hg2 : aget l2 q.1 with
    | none =>
      have hok : okM l2 q = false := by unfold okM; rw [hg2]
      refine ⟨_, _, _, _, _, _, _, _, _, _, false, fun W hW => by have := hlk W (kw5.trans (hW.kk rfl)); rw [hg2] at this; exact this, fun n7 W hW => bsp_intro (fun h => by cases h) (fun _ => ⟨.of_k0 (.refl _ _), by rw [hfalse hok], kw5.trans (hW.kk rfl)⟩)⟩
    | some y =>
      have hok : okM l2 q = dEq q.2.d y.d := by unfold okM; rw [hg2]
      refine ⟨_, _, _, _, _, _, _, _, _, _, true, fun W hW => by have := hlk W (kw5.trans (hW.kk rfl)); rw [hg2] at this; exact this, fun n7 W hW => bsp_intro (fun _ => ?_) (fun h => by cases h)⟩
      have kW : K0 w5 W := hW.kk rfl
      refine ⟨27, #[], #[], rfl, by kernel_rfl, ?_⟩
      refine ⟨(dequal_any q.2 y W ((h1.str q.1 q.2 hget).1.k0 (kw5.trans kW)) ((h2.str q.1 y hg2).1.k0 (kw5.trans kW)) z3 (h2.ok q.1 y hg2).2.2.2 (by omega)).mono fun e w8 ⟨he, k8⟩ => ⟨_, he, .of_k0 k8, bsp_intro (fun h => ?_) (fun h => ?_)⟩⟩
      · have h : dEq q.2.d y.d = false := by simpa using h
        exact ⟨by rw [hfalse (hok.trans h)], (kw5.trans kW).trans k8⟩
      · have h : dEq q.2.d y.d = true := by simpa using h
        have hR8 := (hR5.kp kW (fun h => h) (fun h => h)).kp k8 (fun h => h) (fun h => h)
        refine ⟨⟨todo.eraseIdx j, rfl, hR8, (List.eraseIdx_sublist _ _).trans hsub, ?_, ((k4.trans k5).trans (kW.mono fun _ _ h => h.elim)).trans (k8.mono fun _ _ h => h.elim)⟩, ?_⟩
        · rw [hall, hall2, hok, h]; rfl
        · show leftN w8 r m1 < leftN w4 r m1
          rw [hl4, hlam, hR8.left, hlam5]; omega
set_option maxRecDepth 100000 in
theorem requal_any {w : World} {b1 m1 b2 m2 : Nat} {A : List Au} {l1 l2 : List (List Int × DX)} (h1 : Reg w b1 m1 A l1) (h2 : Reg w b2 m2 A l2) (hA : A.length ≤ 64) (hs : ∀ x ∈ A, x.pt.size ≤ 1073741824) :
    Calls Tryz.prog 41 #[.pointer (some ⟨b1, 0, none⟩), .pointer (some ⟨b2, 0, none⟩)] w fun e w' => e = .returned (.bool (eqM l1 l2)) ∧ K0 w w' := by
  obtain ⟨ap, ac, lp, lc, c1, r1, _⟩ := h1.st
  obtain ⟨ap2, ac2, lp2, lc2, c2, r2, _⟩ := h2.st
  refine vc_requal (some ⟨b1, 0, none⟩) (some ⟨b2, 0, none⟩) w _ (bsp_intro (fun h => by cases h) (fun _ => fun W hW => ?_))
  have kW : K0 w W := hW.kk rfl
  have c1 := kW.blk c1 (fun h => h)
  have c2 := kW.blk c2 (fun h => h)
  refine ⟨fun wx => K0 W wx, .refl _ _, nn_is rfl ⟨ap, A.length, ac, fun wx k => cell_at (k.blk c1 (fun h => h)) rfl, nn_is rfl ⟨ap2, A.length, ac2, fun wx k => cell_at (k.blk c2 (fun h => h)) rfl, ?_⟩⟩⟩
  refine ⟨(aueq_any A ap ac ap2 ac2 W (r1.k0 kW) (r2.k0 kW) h1.au hs hA).mono fun e w1 ⟨he, k1⟩ => ⟨_, he, k1, nn_is rfl ⟨some m1, gimp_intro fun _ wx k => cell_at (k.blk c1 (fun h => h)) rfl, nn_is rfl ⟨some m2, gimp_intro fun _ wx k => cell_at (k.blk c2 (fun h => h)) rfl, bsp_intro (fun _ => ?_) (fun h => by cases h)⟩⟩⟩⟩
  exact ⟨(mapeq_any (h1.k0 (kW.trans k1)) (h2.k0 (kW.trans k1))).mono fun e w2 ⟨he, k2⟩ => ⟨_, he, .of_k0 (k1.trans k2), rfl, (kW.trans k1).trans k2⟩⟩
/-! ### Plain -/
section
variable {l1 l2 l3 : List (List Int × DX)}
theorem EqM.eq (h : EqM l1 l2) (hd : l1.Pairwise fun p q => p.1 ≠ q.1) : eqM l1 l2 = true := by
  unfold eqM
  rw [decide_eq_true h.1, Bool.true_and, List.all_eq_true]
  intro p hp
  obtain ⟨y, hy, e⟩ := h.2 p.1 p.2 (aget_at hd hp)
  unfold okM
  rw [hy]
  exact dEq_iff.2 (by rw [e])
theorem EqM.refl (l : List (List Int × DX)) : EqM l l := ⟨rfl, fun _ x hx => ⟨x, hx, rfl⟩⟩
/-- The same definitions in any order. -/
theorem eqM_perm (hd2 : l2.Pairwise fun p q => p.1 ≠ q.1) (hk1 : ∀ p ∈ l1, p.1 = idI p.2.d.id) (hk2 : ∀ p ∈ l2, p.1 = idI p.2.d.id) (hp : (l1.map fun q => q.2.d).Perm (l2.map fun q => q.2.d)) : EqM l1 l2 := by
  refine ⟨by have := hp.length_eq; simpa using this, fun a x hx => ?_⟩
  have hm : (a, x) ∈ l1 := aget_mem hx
  have h1 : x.d ∈ l2.map fun q => q.2.d := hp.subset (List.mem_map.2 ⟨(a, x), hm, rfl⟩)
  obtain ⟨q, hq, e⟩ := List.mem_map.1 h1
  have ha : a = idI x.d.id := hk1 _ hm
  have hqa : q.1 = a := by rw [hk2 q hq, e, ha]
  exact ⟨q.2, by rw [← hqa]; exact aget_at hd2 hq, e⟩
end

end Go.Proofs.YtkkfnlehlkiejaaGreatDoor

/- The formulas of functions by the symbolic evaluator, and that each gives the call's contract. Written by a program (gen.py). No condition. -/
namespace Go.Proofs.YtkkfnlehlkiejaaGreatDoor
set_option maxRecDepth 100000
set_option linter.unusedVariables false

end Go.Proofs.YtkkfnlehlkiejaaGreatDoor

/- Chapter 21: RegistryDrops on worlds. No condition but what a reading gives. -/
namespace Go.Proofs.YtkkfnlehlkiejaaGreatDoor
open Go.RowKit Go.Maps

theorem nodup_perm {α : Type} [DecidableEq α] : ∀ {l1 l2 : List α}, l1.Nodup → (∀ x ∈ l1, x ∈ l2) → ∃ r, (l1 ++ r).Perm l2
  | [], l2, _, _ => ⟨l2, .refl _⟩
  | a :: t, l2, hn, hs => by
    have hn' := List.nodup_cons.1 hn
    have ha := hs a List.mem_cons_self
    obtain ⟨r, hr⟩ := nodup_perm (l1 := t) (l2 := l2.erase a) hn'.2 (fun x hx => (List.mem_erase_of_ne (fun e => hn'.1 (by rw [← e]; exact hx))).2 (hs x (List.mem_cons_of_mem _ hx)))
    exact ⟨r, ((hr.cons a).trans (List.perm_cons_erase ha).symm)⟩
section
variable {l1 l2 : List (List Int × DX)}
theorem EqM.symm (h : EqM l1 l2) (hd1 : l1.Pairwise fun p q => p.1 ≠ q.1) : EqM l2 l1 := by
  have hn : (l1.map fun p => p.1).Nodup := by show List.Pairwise _ _; rw [List.pairwise_map]; exact hd1
  have hs : ∀ a ∈ l1.map (fun p => p.1), a ∈ l2.map fun p => p.1 := fun a ha => by
    obtain ⟨p, hp, rfl⟩ := List.mem_map.1 ha
    obtain ⟨y, hy, _⟩ := h.2 p.1 p.2 (aget_at hd1 hp)
    exact List.mem_map.2 ⟨_, aget_mem hy, rfl⟩
  obtain ⟨r, hr⟩ := nodup_perm hn hs
  have hrn : r = [] := by
    have := hr.length_eq
    rw [List.length_append, List.length_map, List.length_map, h.1] at this
    exact List.eq_nil_of_length_eq_zero (by omega)
  rw [hrn, List.append_nil] at hr
  refine ⟨h.1.symm, fun a y hy => ?_⟩
  have ha : a ∈ l1.map fun p => p.1 := hr.symm.subset (List.mem_map.2 ⟨_, aget_mem hy, rfl⟩)
  obtain ⟨p, hp, e⟩ := List.mem_map.1 ha
  have hx := aget_at hd1 hp
  rw [e] at hx
  obtain ⟨y', hy', e'⟩ := h.2 a p.2 hx
  rw [hy] at hy'
  cases hy'
  exact ⟨p.2, hx, e'.symm⟩
end
theorem Reg.kpM {w w' : World} {b mb m : Nat} {A : List Au} {l : List (List Int × DX)} {es : Array MapEntry} {c : Nat} (h : Reg w b mb A l) (hk : Kp (· = m) w w') (hm : w.heap[m]? = some (.map es c)) (hne : mb ≠ m) : Reg w' b mb A l := by
  refine ⟨?_, h.map.kp hk (fun e => hne e), fun a x hx => ⟨(h.str a x hx).1.kpM hk hm, (h.str a x hx).2⟩, h.ok, h.au⟩
  obtain ⟨ap, ac, lp, lc, h1, h2, h3⟩ := h.st
  refine ⟨ap, ac, lp, lc, hk.blk h1 (fun e => by have e : b = m := e; subst e; rw [hm] at h1; cases h1), h2.kpM hk hm, fun k x hx => ?_⟩
  obtain ⟨g, o, lb, es, a1, a2, a3, a4⟩ := h3 k x hx
  exact ⟨g, o, lb, es, a1, hk.cell' a2 (fun e => cell_ne_map a2 hm e), a3, a4.kpT hk (fun k c t f e hh => by have e : k = m := e; subst e; rw [hm] at hh; cases hh)⟩
end Go.Proofs.YtkkfnlehlkiejaaGreatDoor

/- The formulas of functions by the symbolic evaluator, and that each gives the call's contract. Written by a program (gen.py). No condition. -/
namespace Go.Proofs.YtkkfnlehlkiejaaGreatDoor
set_option maxRecDepth 100000
set_option linter.unusedVariables false

end Go.Proofs.YtkkfnlehlkiejaaGreatDoor

/- Chapter 21: RegistryCurrent on worlds. No condition but what a reading gives. -/
namespace Go.Proofs.YtkkfnlehlkiejaaGreatDoor
open Go.RowKit Go.Maps

section
variable {w : World} {cs : List DX}
theorem headX (hm : ∀ x ∈ cs, RowA auC 16 w x.p x.d.ms) : RowA auC 16 w ((headC cs).getD dxz).p ((headC cs).getD dxz).d.ms := by
  cases h : headC cs with
  | none => exact RowA.nil
  | some x => exact hm x (headC_mem h)
theorem dz_OK : dz.OK := ⟨fun _ => (show (0 : Int) ≤ 0 ∧ (0 : Int) ≤ 255 by decide), fun _ => (show (0 : Int) ≤ 0 ∧ (0 : Int) ≤ 255 by decide), fun m hm => by cases hm⟩
theorem headOK (h : ∀ x ∈ cs, x.d.OK ∧ x.d.ms.length ≤ 8) : ((headC cs).getD dxz).d.OK ∧ ((headC cs).getD dxz).d.ms.length ≤ 8 := by
  cases hc : headC cs with
  | none => exact ⟨dz_OK, by decide⟩
  | some x => exact h x (headC_mem hc)
end
end Go.Proofs.YtkkfnlehlkiejaaGreatDoor

/- The formulas of functions by the symbolic evaluator, and that each gives the call's contract. Written by a program (gen.py). No condition. -/
namespace Go.Proofs.YtkkfnlehlkiejaaGreatDoor
set_option maxRecDepth 100000
set_option linter.unusedVariables false

def VC_rgroups (b : Nat) (w : World) (R : Ending → World → Prop) : Prop :=
 CallsS Tryz.prog 50 #[Value.pointer (some (Addr.mk b 0 none)), Value.func (Fn.func 62) #[] #[]] w
 fun (e : Ending) (w' : World) =>
 ∃ (p : Option Addr),
 ∃ (n : Nat),
 ∃ (c : Nat),
 e = Ending.returned (Value.slice p n c) ∧
 KeptL [] w w' ∧
 ∃ (I : List Value → World → Prop),
 ∃ (m : List Value → World → Nat),
 I [Value.int IntKind.i64 0, Value.slice none 0 0, Value.string (ByteArray.mk #[])] w' ∧
 ∀ (x : Int) (p_1 : Option Addr) (n_1 c : Nat) (x_1 : ByteArray) (w' : World),
 I [Value.int IntKind.i64 x, Value.slice p_1 n_1 c, Value.string x_1] w' →
 bsp (decide (x < (↑n : Int)))
 (nn true p fun (b o : Nat) =>
 (0 ≤ x ∧ x < (↑n : Int)) ∧
 ∃ (f : Nat → Int),
 ∃ (f_1 : Nat → Int),
 ∃ (x_2 : ByteArray),
 ∃ (x_3 : Int),
 ∃ (x_4 : Bool),
 ∃ (x_5 : Bool),
 ∃ (p : Option Addr),
 ∃ (n : Nat),
 ∃ (c_1 : Nat),
 ∃ (x_6 : ByteArray),
 AtL w' b (o + x.toNat * 54)
 (arrI IntKind.u8 f 32 0 ++ (arrI IntKind.u8 f_1 16 0 ++ [Value.string x_2, Value.int IntKind.i64 x_3, Value.bool x_4, Value.bool x_5,
 Value.slice p n c_1, Value.string x_6])) ∧
 ∀ (n_2 : Nat),
 ∃ (x_7 : Bool),
 gimp (!x_2.toList == x_1.toList)
 (∀ (W : World),
 Loc w.heap.size
 [Blk.mk n_2 56
 (arrI IntKind.u8 f 32 0 ++ (arrI IntKind.u8 f_1 16 0 ++ [Value.string x_2,
 Value.int IntKind.i64 x_3, Value.bool x_4, Value.bool x_5, Value.slice p n c_1,
 Value.string x_6]))
 (wrM 2)]
 w' W →
 W.cell? (Addr.mk n_2 (0 + 50) none) = some (Value.bool x_7)) ∧
 bsp (!x_2.toList == x_1.toList && !x_7)
 (∀ (n_3 : Nat) (W : World),
 Loc w.heap.size
 [Blk.mk n_3 9 [Value.string x_2] 2,
 Blk.mk n_2 56
 (arrI IntKind.u8 f 32 0 ++ (arrI IntKind.u8 f_1 16 0 ++ [Value.string x_2,
 Value.int IntKind.i64 x_3, Value.bool x_4, Value.bool x_5, Value.slice p n c_1,
 Value.string x_6]))
 (wrM 2)]
 w' W →
 ∃ (base : Nat),
 ∃ (xs : List Value),
 W.ownsRow base 9 1 (Value.slice p_1 n_1 c) n_1 xs ∧
 n_1 + 1 ≤ 9223372036854775807 ∧
 (n_1 + 1) * 16 ≤ 140737488355328 ∧
 base ≤ W.heap.size ∧
 ∀ (p' : Option Addr) (c' : Nat) (w'_1 : World),
 w'_1.ownsRow base 9 1 (Value.slice p' (n_1 + 1) c') (n_1 + 1)
 (xs ++ [Value.string x_2]) →
 W.grownBy w'_1 (Value.slice p_1 n_1 c).ownBlock →
 (n_1 + 1 ≤ c → p' = p_1 ∧ c' = c) →
 KeptL [n_2] W w'_1 ∧
 I
 [Value.int IntKind.i64 (IntKind.i64.wrap (x + 1)),
 Value.slice p' (n_1 + 1) c', Value.string x_2]
 w'_1 ∧
 m
 [Value.int IntKind.i64 (IntKind.i64.wrap (x + 1)),
 Value.slice p' (n_1 + 1) c', Value.string x_2]
 w'_1 <
 m [Value.int IntKind.i64 x, Value.slice p_1 n_1 c, Value.string x_1] w')
 (∀ (W : World),
 Loc w.heap.size
 [Blk.mk n_2 56
 (arrI IntKind.u8 f 32 0 ++ (arrI IntKind.u8 f_1 16 0 ++ [Value.string x_2,
 Value.int IntKind.i64 x_3, Value.bool x_4, Value.bool x_5, Value.slice p n c_1,
 Value.string x_6]))
 (wrM 2)]
 w' W →
 I
 [Value.int IntKind.i64 (IntKind.i64.wrap (x + 1)), Value.slice p_1 n_1 c,
 Value.string x_2]
 W ∧
 m
 [Value.int IntKind.i64 (IntKind.i64.wrap (x + 1)), Value.slice p_1 n_1 c,
 Value.string x_2]
 W <
 m [Value.int IntKind.i64 x, Value.slice p_1 n_1 c, Value.string x_1] w'))
 (R (Ending.returned (Value.slice p_1 n_1 c)) w')
theorem vc_rgroups (b : Nat) (w : World) (R : Ending → World → Prop) (h : VC_rgroups b w R) : Calls Tryz.prog 37 ([Value.pointer
    (some { block := b, off := 0 })] : List Value).toArray w R := by
  have e : execR2 { P := Tryz.prog, loops := [(4, [(10, Ck.int IntKind.i64), (3, Ck.slice), (4, Ck.str)])], pur := pur1, tails := [], joins := [], boxes := [] } Tryz.f37.results.toList R (Tryz.f37.body.getD .skip) (initF [Value.pointer
    (some
      { block := b,
        off :=
          0 })] (Tryz.f37.ntmps - ([Value.pointer
    (some { block := b, off := 0 })] : List Value).length)) w = VC_rgroups b w R := by kernel_rfl
  have hb : Tryz.f37.body = some (Tryz.f37.body.getD .skip) := by kernel_rfl
  exact calls_of_exec2' (P := Tryz.prog) (fn := Tryz.f37) (c := Tryz.f37.body.getD .skip) (args := [Value.pointer
    (some { block := b, off := 0 })]) (w := w) (R := R) pur1_ok Tryz.func37 hb e h

def VC_rgroupsC (id : Nat → Int) (au : Nat → Int) (g : ByteArray) (v : Int) (rm : Bool) (md : Bool) (p : Option Addr) (n : Nat) (c : Nat) (t : ByteArray) (w : World) (R : Ending → World → Prop) : Prop :=
 ∀ (n_1 : Nat) (W : World),
 Loc w.heap.size
 [Blk.mk n_1 56
 (arrI IntKind.u8 id 32 0 ++ (arrI IntKind.u8 au 16 0 ++ [Value.string g,
 Value.int IntKind.i64 v, Value.bool rm, Value.bool md, Value.slice p n c, Value.string t]))
 2]
 w W →
 R (Ending.returned (Value.bool true)) W
theorem vc_rgroupsC (id : Nat → Int) (au : Nat → Int) (g : ByteArray) (v : Int) (rm : Bool) (md : Bool) (p : Option Addr) (n : Nat) (c : Nat) (t : ByteArray) (w : World) (R : Ending → World → Prop) (h : VC_rgroupsC id au g v rm md p n c t w R) : Calls Tryz.prog 62 ([Value.agg
    (arrI IntKind.u8 id 32 0 ++
        (arrI IntKind.u8 au 16 0 ++
          [Value.string g, Value.int IntKind.i64 v, Value.bool rm, Value.bool md, Value.slice p n c,
            Value.string t])).toArray] : List Value).toArray w R := by
  have e : execR2 { P := Tryz.prog, loops := [], pur := pur1, tails := [], joins := [], boxes := [] } Tryz.f62.results.toList R (Tryz.f62.body.getD .skip) (initF [Value.agg
    (arrI IntKind.u8 id 32 0 ++
        (arrI IntKind.u8 au 16 0 ++
          [Value.string g, Value.int IntKind.i64 v, Value.bool rm, Value.bool md, Value.slice p n c,
            Value.string
              t])).toArray] (Tryz.f62.ntmps - ([Value.agg
    (arrI IntKind.u8 id 32 0 ++
        (arrI IntKind.u8 au 16 0 ++
          [Value.string g, Value.int IntKind.i64 v, Value.bool rm, Value.bool md, Value.slice p n c,
            Value.string
              t])).toArray] : List Value).length)) w = VC_rgroupsC id au g v rm md p n c t w R := by kernel_rfl
  have hb : Tryz.f62.body = some (Tryz.f62.body.getD .skip) := by kernel_rfl
  exact calls_of_exec2' (P := Tryz.prog) (fn := Tryz.f62) (c := Tryz.f62.body.getD .skip) (args := [Value.agg
    (arrI IntKind.u8 id 32 0 ++
        (arrI IntKind.u8 au 16 0 ++
          [Value.string g, Value.int IntKind.i64 v, Value.bool rm, Value.bool md, Value.slice p n c,
            Value.string t])).toArray]) (w := w) (R := R) pur1_ok Tryz.func62 hb e h

end Go.Proofs.YtkkfnlehlkiejaaGreatDoor

/- The formulas of functions by the symbolic evaluator, and that each gives the call's contract. Written by a program (gen.py). No condition. -/
namespace Go.Proofs.YtkkfnlehlkiejaaGreatDoor
set_option maxRecDepth 100000
set_option linter.unusedVariables false

end Go.Proofs.YtkkfnlehlkiejaaGreatDoor

/- The formulas of functions by the symbolic evaluator, and that each gives the call's contract. Written by a program (gen.py). No condition. -/
namespace Go.Proofs.YtkkfnlehlkiejaaGreatDoor
set_option maxRecDepth 100000
set_option linter.unusedVariables false

def VC_r1same (p : Option Addr) (n : Nat) (c : Nat) (q : Option Addr) (k : Nat) (d : Nat) (w : World) (R : Ending → World → Prop) : Prop :=
 bsp ((↑n : Int) != (↑k : Int)) (R (Ending.returned (Value.bool false)) w)
 (∃ (I : List Value → World → Prop),
 ∃ (m : List Value → World → Nat),
 I [Value.int IntKind.i64 0] w ∧
 ∀ (x : Int) (w' : World),
 I [Value.int IntKind.i64 x] w' →
 bsp (decide (x < (↑n : Int)))
 (nn true p fun (b o : Nat) =>
 (0 ≤ x ∧ x < (↑n : Int)) ∧
 ∃ (x_1 : ByteArray),
 (∀ (W : World), Loc w.heap.size [] w' W → W.cell? (Addr.mk b (o + x.toNat) none) = some (Value.string x_1)) ∧
 nn true q fun (b o : Nat) =>
 (0 ≤ x ∧ x < (↑k : Int)) ∧
 ∃ (x_2 : ByteArray),
 (∀ (W : World),
 Loc w.heap.size [] w' W → W.cell? (Addr.mk b (o + x.toNat) none) = some (Value.string x_2)) ∧
 bsp (!x_1.toList == x_2.toList)
 (∀ (W : World), Loc w.heap.size [] w' W → R (Ending.returned (Value.bool false)) W)
 (∀ (W : World),
 Loc w.heap.size [] w' W →
 I [Value.int IntKind.i64 (IntKind.i64.wrap (x + 1))] W ∧
 m [Value.int IntKind.i64 (IntKind.i64.wrap (x + 1))] W < m [Value.int IntKind.i64 x] w'))
 (R (Ending.returned (Value.bool true)) w'))
theorem vc_r1same (p : Option Addr) (n : Nat) (c : Nat) (q : Option Addr) (k : Nat) (d : Nat) (w : World) (R : Ending → World → Prop) (h : VC_r1same p n c q k d w R) : Calls Tryz.prog 36 ([Value.slice
    p n c,
  Value.slice q k d] : List Value).toArray w R := by
  have e : execR2 { P := Tryz.prog, loops := [(4, [(5, Ck.int IntKind.i64)])], pur := pur1, tails := [], joins := [], boxes := [] } Tryz.f36.results.toList R (Tryz.f36.body.getD .skip) (initF [Value.slice
    p n c,
  Value.slice q k
    d] (Tryz.f36.ntmps - ([Value.slice p n c,
  Value.slice q k d] : List Value).length)) w = VC_r1same p n c q k d w R := by kernel_rfl
  have hb : Tryz.f36.body = some (Tryz.f36.body.getD .skip) := by kernel_rfl
  exact calls_of_exec2' (P := Tryz.prog) (fn := Tryz.f36) (c := Tryz.f36.body.getD .skip) (args := [Value.slice p n c,
  Value.slice q k d]) (w := w) (R := R) pur1_ok Tryz.func36 hb e h

end Go.Proofs.YtkkfnlehlkiejaaGreatDoor

/- Chapter 21: groups that exist: plain, and the contracts of Groups, Select, the reference's Groups, Selected. Lists that are not too long. -/
namespace Go.Proofs.YtkkfnlehlkiejaaGreatDoor
open Go.RowKit Go.Maps

/-! ### Plain -/
def cbs (a b : ByteArray) : Int := Lib.compareBytes a.data.toList b.data.toList
theorem cbs_ord : Ord3 cbs := cb_ord (fun x : ByteArray => x.data.toList)
theorem cbs_zero {a b : ByteArray} (h : cbs a b = 0) : a = b := str_eq (by rw [ByteArray.toList_eq, ByteArray.toList_eq]; exact cb_zero _ _ h)
theorem cbs_self (a : ByteArray) : cbs a a = 0 := cb_self _
def Asc (l : List ByteArray) : Prop := l.Pairwise fun a b => cbs a b < 0
theorem asc_uniq : ∀ {l1 l2 : List ByteArray}, Asc l1 → Asc l2 → (∀ x, x ∈ l1 ↔ x ∈ l2) → l1 = l2
  | [], [], _, _, _ => rfl
  | [], b :: s, _, _, h => absurd ((h b).2 List.mem_cons_self) (by simp)
  | a :: r, [], _, _, h => absurd ((h a).1 List.mem_cons_self) (by simp)
  | a :: r, b :: s, h1, h2, h => by
    have i1 := List.pairwise_cons.1 h1
    have i2 := List.pairwise_cons.1 h2
    have irr : ∀ x, ¬ cbs x x < 0 := fun x hx => by rw [cbs_self] at hx; omega
    have hab : a = b := Classical.byContradiction fun hne => by
      have h3 : a ∈ s := by
        rcases List.mem_cons.1 ((h a).1 List.mem_cons_self) with e | e
        · exact absurd e hne
        · exact e
      have h4 : b ∈ r := by
        rcases List.mem_cons.1 ((h b).2 List.mem_cons_self) with e | e
        · exact absurd e.symm hne
        · exact e
      exact irr a (cbs_ord.tlt _ _ _ (i1.1 b h4) (i2.1 a h3))
    subst hab
    rw [asc_uniq i1.2 i2.2 fun x => ⟨fun hx => by
      rcases List.mem_cons.1 ((h x).1 (List.mem_cons_of_mem _ hx)) with e | e
      · subst e; exact absurd (i1.1 x hx) (irr x)
      · exact e, fun hx => by
      rcases List.mem_cons.1 ((h x).2 (List.mem_cons_of_mem _ hx)) with e | e
      · subst e; exact absurd (i2.1 x hx) (irr x)
      · exact e⟩]
/-- The groups of a sorted list of definitions. -/
def grpP : List Df → ByteArray → List ByteArray
  | [], _ => []
  | d :: r, last => if d.g ≠ last ∧ d.rm = false then d.g :: grpP r d.g else grpP r d.g
theorem mem_grpP : ∀ (L : List Df) (last : ByteArray), (L.Pairwise fun a b => cbs a.g b.g ≤ 0) → (∀ d ∈ L, cbs last d.g ≤ 0) → ∀ g, g ∈ grpP L last ↔ g ≠ last ∧ (headD (L.filter fun d => decide (d.g = g))).isSome = true
  | [], last, _, _, g => by simp [grpP, headD]
  | d :: r, last, hs, hl, g => by
    have hp := List.pairwise_cons.1 hs
    have ih := mem_grpP r d.g hp.2 hp.1 g
    have hdl := hl d List.mem_cons_self
    have hbig : d.g ≠ last → (headD (r.filter fun d => decide (d.g = g))).isSome = true → g ≠ last := fun hd hh e => by
      subst e
      cases hf : r.filter (fun d => decide (d.g = g)) with
      | nil => rw [hf] at hh; cases hh
      | cons x t =>
        have hx : x ∈ r.filter (fun d => decide (d.g = g)) := by rw [hf]; simp
        have hxr := (List.mem_filter.1 hx).1
        have hxg : x.g = g := by simpa using (List.mem_filter.1 hx).2
        have h1 := hp.1 x hxr
        rw [hxg] at h1
        have h2 := cbs_ord.anti d.g g
        exact hd (cbs_zero (by omega))
    by_cases hg : d.g = g
    · have hf : (d :: r).filter (fun d => decide (d.g = g)) = d :: r.filter (fun d => decide (d.g = g)) := by rw [List.filter_cons, if_pos (by simpa using hg)]
      have hh : (headD ((d :: r).filter fun d => decide (d.g = g))).isSome = !d.rm := by
        rw [hf]
        show (if d.rm = true then none else some d : Option Df).isSome = _
        cases d.rm <;> rfl
      rw [hh]
      have hn : ¬ g ∈ grpP r d.g := fun h => (ih.1 h).1 hg.symm
      unfold grpP
      split
      · rename_i h
        rw [← hg]
        constructor
        · intro _; exact ⟨h.1, by rw [h.2]; rfl⟩
        · intro _; simp
      · rename_i h
        constructor
        · intro h1; exact absurd h1 hn
        · rintro ⟨h1, h2⟩
          exfalso
          refine h ⟨by rw [hg]; exact h1, ?_⟩
          cases hd : d.rm
          · rfl
          · rw [hd] at h2; cases h2
    · have hf : (d :: r).filter (fun d => decide (d.g = g)) = r.filter (fun d => decide (d.g = g)) := by rw [List.filter_cons, if_neg (by simpa using hg)]
      rw [hf]
      have hgd : g ≠ d.g := fun e => hg e.symm
      have hmem : g ∈ grpP (d :: r) last ↔ g ∈ grpP r d.g := by
        rw [grpP]
        split
        · simp [hgd]
        · rfl
      rw [hmem, ih]
      constructor
      · rintro ⟨_, h2⟩
        refine ⟨?_, h2⟩
        by_cases hd : d.g = last
        · rw [← hd]; exact hgd
        · exact hbig hd h2
      · rintro ⟨_, h2⟩; exact ⟨hgd, h2⟩
theorem asc_grpP : ∀ (L : List Df) (last : ByteArray), (L.Pairwise fun a b => cbs a.g b.g ≤ 0) → (∀ d ∈ L, cbs last d.g ≤ 0) → Asc (grpP L last) ∧ ∀ g ∈ grpP L last, cbs last g < 0
  | [], last, _, _ => ⟨.nil, fun g h => by cases h⟩
  | d :: r, last, hs, hl => by
    have hp := List.pairwise_cons.1 hs
    obtain ⟨i1, i2⟩ := asc_grpP r d.g hp.2 hp.1
    have hdl := hl d List.mem_cons_self
    have hle : ∀ g, cbs d.g g < 0 → cbs last g < 0 := fun g hg => by
      rcases Int.lt_or_eq_of_le hdl with h | h
      · exact cbs_ord.tlt _ _ _ h hg
      · exact cbs_ord.el _ _ _ h hg
    unfold grpP
    split
    · rename_i h
      refine ⟨List.pairwise_cons.2 ⟨fun g hg => i2 g hg, i1⟩, fun g hg => ?_⟩
      rcases List.mem_cons.1 hg with rfl | hg
      · rcases Int.lt_or_eq_of_le hdl with h2 | h2
        · exact h2
        · exact absurd (cbs_zero h2).symm h.1
      · exact hle g (i2 g hg)
    · exact ⟨i1, fun g hg => hle g (i2 g hg)⟩
theorem cbs_nil (g : ByteArray) : cbs ⟨#[]⟩ g ≤ 0 := by
  unfold cbs
  show Lib.compareBytes [] g.data.toList ≤ 0
  cases g.data.toList with
  | nil => decide
  | cons a r => show (-1 : Int) ≤ 0; decide
theorem cfd_g {a b : Df} (h : ¬ cfd b a < 0) : cbs a.g b.g ≤ 0 := by
  have h1 : cbs a.g b.g = - cbs b.g a.g := cbs_ord.anti _ _
  have h2 : ¬ cbs b.g a.g < 0 := fun h3 => h (by
    have h4 : cfG (DX.mk b none 0) (DX.mk a none 0) < 0 := h3
    unfold cfd cfD
    rw [if_pos (by omega)]
    exact h4)
  omega

/-! ### The program -/
theorem strP_own {w : World} {base : Nat} {e : TypeId} {p : Option Addr} {n c : Nat} {l : List ByteArray} (ho : w.ownsRow base e 1 (.slice p n c) n (l.map .string)) : StrP w p l := fun k z hk => by
  obtain ⟨g, h1, h2⟩ := own_cellL ho (i := k) (v := .string z) (by rw [List.getElem?_map, hk]; rfl)
  exact ⟨g, 0, h1, by rw [Nat.zero_add]; exact h2⟩
set_option maxRecDepth 100000 in
theorem rgroupsC_any (x : DX) (w : World) : Calls Tryz.prog 62 #[dfV x] w fun e w' => e = .returned (.bool true) ∧ K0 w w' :=
  vc_rgroupsC x.d.id x.d.au x.d.g x.d.v x.d.rm x.d.md x.p x.d.ms.length x.c x.d.tx w _ (fun _ _ hW => ⟨rfl, hW.kk rfl⟩)
set_option maxRecDepth 100000 in
set_option maxHeartbeats 4000000 in
theorem rgroups_any {w : World} {b mb : Nat} {A : List Au} {l : List (List Int × DX)} (h : Reg w b mb A l) (hl : l.length ≤ 4096) :
    Calls Tryz.prog 37 #[.pointer (some ⟨b, 0, none⟩)] w fun e w' => (∃ (L : List Df) (p : Option Addr) (c : Nat), L.Perm (l.map fun q => q.2.d) ∧ (L.Pairwise fun a b => ¬ cfd b a < 0) ∧ e = .returned (.slice p (grpP L ⟨#[]⟩).length c) ∧
      w'.ownsRow w.heap.size 9 1 (.slice p (grpP L ⟨#[]⟩).length c) (grpP L ⟨#[]⟩).length ((grpP L ⟨#[]⟩).map Value.string)) ∧ K0 w w' := by
  refine vc_rgroups b w _ ⟨(rpick_any h hl 62 #[] #[] (by kernel_rfl) (fun _ => true) (fun q _ w1 _ => rgroupsC_any q.2 w1)).mono fun e w1 ⟨⟨cs, p, c, he, ho, hp, hs, hM⟩, k1⟩ => ⟨_, _, _, he, .of_k0 k1, ?_⟩⟩
  have hLp : (cs.map fun x => x.d).Perm (l.map fun q => q.2.d) := by
    have e1 : accL (fun _ => true) l = l.map fun q => q.2.d := by unfold accL; rw [List.filter_eq_self.2 (fun _ _ => rfl), List.map_map]; rfl
    rw [e1] at hp; exact hp
  have hLs : (cs.map fun x => x.d).Pairwise fun a b => ¬ cfd b a < 0 := by rw [List.pairwise_map]; exact hs
  have hcl : cs.length ≤ 4096 := by have := hLp.length_eq; simp only [List.length_map] at this; omega
  generalize hL : (cs.map fun x => x.d) = L at *
  have hrow : RowA dfC 54 w1 p cs := RowA.own ho dfC_length (by decide)
  refine ⟨fun vs w' => ∃ (k : Nat) (acc : List ByteArray) (q : Option Addr) (d : Nat) (last : ByteArray), vs = [.int .i64 (k : Int), .slice q acc.length d, .string last] ∧ k ≤ cs.length ∧ acc.length ≤ k ∧ acc ++ grpP (L.drop k) last = grpP L ⟨#[]⟩ ∧
      w'.ownsRow w1.heap.size 9 1 (.slice q acc.length d) acc.length (acc.map Value.string) ∧ K0 w1 w',
    fun vs _ => (match vs with | .int _ a :: _ => cs.length - a.toNat | _ => 0), ⟨0, [], none, 0, ⟨#[]⟩, rfl, by omega, by simp, rfl, World.ownsRow_nil _ _ _ _, .refl _ _⟩, ?_⟩
  rintro x q0 n0 d0 last0 w2 ⟨k, acc, q, d, last, hv, hk, hak, hacc, ho2, k2⟩
  simp only [List.cons.injEq, Value.int.injEq, Value.slice.injEq, Value.string.injEq, true_and, and_true] at hv
  obtain ⟨rfl, ⟨rfl, rfl, rfl⟩, rfl⟩ := hv
  refine bsp_intro (fun hlt => ?_) (fun hge => ?_)
  rotate_left
  · have hk2 : k = cs.length := by simp at hge; omega
    have hnil : L.drop k = [] := by rw [← hL, hk2]; exact List.drop_eq_nil_of_le (by simp)
    rw [hnil] at hacc
    have hacc : acc = grpP L ⟨#[]⟩ := by simpa [grpP] using hacc
    exact ⟨⟨L, q0, d0, hLp, hLs, by rw [← hacc], by rw [← hacc]; exact own_base ho2 k1.size⟩, k1.trans k2⟩
  have hlt : k < cs.length := by simp at hlt; omega
  obtain ⟨y, bb, oo, hy, hpb, hat⟩ := (hrow.k0 k2).get hlt
  rw [Int.toNat_natCast]
  have hdrop : L.drop k = y.d :: L.drop (k + 1) := by
    have h1 : L[k]? = some y.d := by rw [← hL, List.getElem?_map, hy]; rfl
    obtain ⟨hk', e⟩ := List.getElem?_eq_some_iff.1 h1
    rw [List.drop_eq_getElem_cons hk', e]
  rw [hdrop] at hacc
  refine nn_is hpb ⟨⟨by omega, by omega⟩, y.d.id, y.d.au, y.d.g, y.d.v, y.d.rm, y.d.md, y.p, y.d.ms.length, y.c, y.d.tx, hat, fun n2 => ⟨y.d.rm, gimp_intro fun _ W hW => cell_at (hW.cells 0 rfl) rfl, bsp_intro (fun hc => fun n3 W3 hW3 => ?_) (fun hc => fun W3 hW3 => ?_)⟩⟩
  · rw [str_beq] at hc
    have hc : y.d.g ≠ last0 ∧ y.d.rm = false := by simpa using hc
    rw [grpP, if_pos hc] at hacc
    have k3 : K0 w2 W3 := hW3.kk rfl
    have ho3 := owns_kp ho2 k3 (fun _ _ h => h)
    refine ⟨w1.heap.size, _, ho3, by omega, by omega, (k2.trans k3).size, fun p5 c5 w5 ho5 hg5 _ => ?_⟩
    have kg := kp_grown hg5
    refine ⟨.of_kp kg (fun z hz e => ?_), ⟨k + 1, acc ++ [y.d.g], p5, c5, y.d.g, ?_, hlt, ?_, ?_, ?_, (k2.trans k3).fresh kg (fun j hj e => by have := own_ge ho3 e; omega)⟩, by rw [inc64 (by omega)]; simp only [Int.toNat_natCast]; omega⟩
    · simp only [List.mem_cons, List.not_mem_nil, or_false] at hz
      subst hz
      exact own_not ho3 (hW3.cells 1 rfl) rfl e
    · rw [inc64 (by omega), List.length_append]; rfl
    · rw [List.length_append]; simp only [List.length_cons, List.length_nil]; omega
    · rw [List.append_assoc]; exact hacc
    · rw [List.length_append, List.map_append]; exact ho5
  · rw [str_beq] at hc
    have hc : ¬ (y.d.g ≠ last0 ∧ y.d.rm = false) := fun ⟨h1, h2⟩ => by rw [decide_eq_false h1, h2] at hc; cases hc
    rw [grpP, if_neg hc] at hacc
    have k3 : K0 w2 W3 := hW3.kk rfl
    exact ⟨⟨k + 1, acc, q0, d0, y.d.g, by rw [inc64 (by omega)], hlt, by omega, hacc, owns_kp ho2 k3 (fun _ _ h => h), k2.trans k3⟩, by rw [inc64 (by omega)]; simp only [Int.toNat_natCast]; omega⟩
end Go.Proofs.YtkkfnlehlkiejaaGreatDoor

/- The formulas of functions by the symbolic evaluator, and that each gives the call's contract. Written by a program (gen.py). No condition. -/
namespace Go.Proofs.YtkkfnlehlkiejaaGreatDoor
set_option maxRecDepth 100000
set_option linter.unusedVariables false

end Go.Proofs.YtkkfnlehlkiejaaGreatDoor

/- Chapter 21: the contracts of the reference's Groups, Selected; RegistryGroups on worlds. No condition but what a reading gives. -/
namespace Go.Proofs.YtkkfnlehlkiejaaGreatDoor
open Go.RowKit Go.Maps

theorem r1same_any (a b : List ByteArray) (p : Option Addr) (c : Nat) (q : Option Addr) (d : Nat) (w : World) (hp : StrP w p a) (hq : StrP w q b) (hl : a.length ≤ 1099511627776) :
    Calls Tryz.prog 36 #[.slice p a.length c, .slice q b.length d] w fun e w' => e = .returned (.bool (decide (a = b))) ∧ K0 w w' := by
  refine vc_r1same p a.length c q b.length d w _ (bsp_intro (fun h => ?_) (fun h => ?_))
  · have : ¬ a = b := fun e => by rw [e] at h; simp at h
    rw [decide_eq_false this]; exact ⟨rfl, .refl _ _⟩
  have hn : a.length = b.length := by simp at h; omega
  refine ⟨fun vs w' => ∃ i : Nat, vs = [.int .i64 (i : Int)] ∧ i ≤ a.length ∧ a.take i = b.take i ∧ K0 w w',
    fun vs _ => (match vs with | .int _ x :: _ => a.length - x.toNat | _ => 0), ⟨0, rfl, by omega, by simp, .refl _ _⟩, ?_⟩
  rintro x w1 ⟨i, hv, hi, ht, k1⟩
  simp only [List.cons.injEq, Value.int.injEq, true_and, and_true] at hv
  subst hv
  refine bsp_intro (fun hlt => ?_) (fun hge => ?_)
  · have hlt : i < a.length := by simp at hlt; omega
    obtain ⟨z, b1, o1, hz, hp1, hc1⟩ := str_get (hp.k0 k1) hlt
    obtain ⟨y, b2, o2, hy, hp2, hc2⟩ := str_get (hq.k0 k1) (k := i) (by omega)
    rw [Int.toNat_natCast]
    refine nn_is hp1 ⟨⟨by omega, by omega⟩, z, fun W hW => (hW.kk rfl : K0 w1 W).cell' hc1 (fun h => h), nn_is hp2 ⟨⟨by omega, by omega⟩, y, fun W hW => (hW.kk rfl : K0 w1 W).cell' hc2 (fun h => h), bsp_intro (fun hne => fun W hW => ?_) (fun heq => fun W hW => ?_)⟩⟩
    · have : ¬ a = b := fun e => by
        rw [e, hy] at hz
        cases hz
        simp at hne
      rw [decide_eq_false this]; exact ⟨rfl, k1.trans (hW.kk rfl)⟩
    · have e : z = y := str_eq (by simpa using heq)
      refine ⟨⟨i + 1, by rw [inc64 (by omega)], hlt, ?_, k1.trans (hW.kk rfl)⟩, by rw [inc64 (by omega)]; simp only [Int.toNat_natCast]; omega⟩
      rw [take_snoc hz, take_snoc hy, ht, e]
  · have hi : i = a.length := by simp at hge; omega
    subst hi
    rw [List.take_length, List.take_of_length_le (by omega)] at ht
    rw [decide_eq_true ht]; exact ⟨rfl, k1⟩

end Go.Proofs.YtkkfnlehlkiejaaGreatDoor

/- Chapter 21: the contract of the reference's Selected; RegistryGroups on worlds. No condition but what a reading gives. -/
namespace Go.Proofs.YtkkfnlehlkiejaaGreatDoor
open Go.RowKit Go.Maps

/-! ### The law -/
section
variable {l : List (List Int × DX)} {ds : List DX}
/-- Whether a group exists, of a list of all definitions in order. -/
def curL (L : List Df) (g : ByteArray) : Bool := (headD (L.filter fun d => decide (d.g = g))).isSome
theorem DL.perm (h : DL l ds) {L : List Df} (hp : L.Perm (l.map fun q => q.2.d)) : L.Perm (ds.map fun y => y.d) := by rw [h.eq]; exact hp
theorem DL.cur (h : DL l ds) (hok : ∀ y ∈ ds, y.d.OK) {L : List Df} (hp : L.Perm (l.map fun q => q.2.d)) (hs : L.Pairwise fun a b => ¬ cfd b a < 0) (s : ByteArray) (out : List DX) (ho : out.Perm (verF ds s)) (hos : out.Pairwise fun x y => ¬ cfP y x < 0) : (headC out).isSome = curL L s := by
  have hV : VerL l s ((L.filter fun d => decide (d.g = s)).map fun d => (⟨d, none, 0⟩ : DX)) := by
    refine ⟨?_, ?_⟩
    · rw [h.acc (fun d => decide (d.g = s))]
      have e1 : ((L.filter fun d => decide (d.g = s)).map fun d => (⟨d, none, 0⟩ : DX)).map (·.d) = L.filter fun d => decide (d.g = s) := by rw [List.map_map]; exact List.map_id _
      have e2 : (ds.filter fun y => decide (y.d.g = s)).map (fun y => y.d) = (ds.map fun y => y.d).filter fun d => decide (d.g = s) := by rw [List.filter_map]; rfl
      rw [e1, e2]
      exact (h.perm hp).filter _
    · rw [List.pairwise_map]
      exact (hs.sublist (List.filter_sublist)).imp fun {a b} h => h
  have := h.vers hok hV ho hos
  rw [headC_is, ← this]
  unfold curL
  rw [List.map_map]
  congr 2
  exact List.map_id _
/-- What the program lists is what the reference lists. -/
theorem DL.groups (h : DL l ds) (hne : ∀ y ∈ ds, y.d.g ≠ ⟨#[]⟩) {L : List Df} (hp : L.Perm (l.map fun q => q.2.d)) (hs : L.Pairwise fun a b => ¬ cfd b a < 0) {G : List ByteArray} (hA : Asc G) (hG : ∀ g, g ∈ G ↔ (∃ y ∈ ds, y.d.g = g) ∧ curL L g = true) : grpP L ⟨#[]⟩ = G := by
  have hs' : L.Pairwise fun a b => cbs a.g b.g ≤ 0 := hs.imp fun {a b} h => cfd_g h
  have hn : ∀ d ∈ L, cbs ⟨#[]⟩ d.g ≤ 0 := fun d _ => cbs_nil d.g
  refine asc_uniq (asc_grpP L _ hs' hn).1 hA fun g => ?_
  rw [mem_grpP L _ hs' hn, hG]
  constructor
  · rintro ⟨_, h2⟩
    refine ⟨?_, h2⟩
    cases hf : L.filter (fun d => decide (d.g = g)) with
    | nil => rw [hf] at h2; cases h2
    | cons x t =>
      have hx : x ∈ L.filter (fun d => decide (d.g = g)) := by rw [hf]; simp
      have hxg : x.g = g := by simpa using (List.mem_filter.1 hx).2
      obtain ⟨y, hy, e⟩ := List.mem_map.1 ((h.perm hp).subset (List.mem_filter.1 hx).1)
      exact ⟨y, hy, by rw [e]; exact hxg⟩
  · rintro ⟨⟨y, hy, e⟩, h2⟩
    exact ⟨by rw [← e]; exact hne y hy, h2⟩
end
end Go.Proofs.YtkkfnlehlkiejaaGreatDoor

/- The formulas of functions by the symbolic evaluator, and that each gives the call's contract. Written by a program (gen.py). No condition. -/
namespace Go.Proofs.YtkkfnlehlkiejaaGreatDoor
set_option maxRecDepth 100000
set_option linter.unusedVariables false

def VC_lrorder (ap : Option Addr) (an : Nat) (ac : Nat) (op : Option Addr) (on : Nat) (oc : Nat) (t : Int) (w : World) (R : Ending → World → Prop) : Prop :=
 ∀ (n : Nat) (W : World),
 Loc w.heap.size [Blk.mk n 42 [Value.slice ap an ac, Value.slice op on oc] 2] w W →
 CallsS Tryz.prog 12 #[Value.slice ap an ac] W fun (e : Ending) (w' : World) =>
 ∃ (p : Option Addr),
 ∃ (n_1 : Nat),
 ∃ (c : Nat),
 ∃ (p_1 : Option Addr),
 ∃ (n_2 : Nat),
 ∃ (c_1 : Nat),
 e = Ending.returned (Value.tuple #[Value.slice p n_1 c, Value.slice p_1 n_2 c_1]) ∧
 KeptL [n] W w' ∧
 CallsS Tryz.prog 13 #[Value.slice p n_1 c] w' fun (e : Ending) (w'_1 : World) =>
 ∃ (x : Option Addr),
 ∃ (x_1 : Int),
 ∃ (x_2 : Int),
 e =
 Ending.returned
 (Value.tuple #[Value.pointer x, Value.int IntKind.i64 x_1, Value.int IntKind.i64 x_2]) ∧
 KeptL [n] w' w'_1 ∧
 CallsS Tryz.prog 13 #[Value.slice p n_1 c] w'_1 fun (e : Ending) (w' : World) =>
 ∃ (x_3 : Option Addr),
 ∃ (x_4 : Int),
 ∃ (x_5 : Int),
 e =
 Ending.returned
 (Value.tuple #[Value.pointer x_3, Value.int IntKind.i64 x_4, Value.int IntKind.i64 x_5]) ∧
 KeptL [n] w'_1 w' ∧
 CallsS Tryz.prog 15 #[] w' fun (e : Ending) (w'_2 : World) =>
 ∃ (x_6 : Bool),
 e = Ending.returned (Value.bool x_6) ∧
 KeptL [n] w' w'_2 ∧
 bsp (!x_6 || x_2 != 0 || x_5 != 0)
 (CallsS Tryz.prog 15 #[] w'_2 fun (e : Ending) (w' : World) =>
 ∃ (x : Bool),
 e = Ending.returned (Value.bool x) ∧
 KeptL [n] w'_2 w' ∧ R (Ending.returned (Value.bool (x && x_2 == x_5))) w')
 (∃ (I : List Value → World → Prop),
 ∃ (m : List Value → World → Nat),
 I [Value.int IntKind.i64 0] w'_2 ∧
 ∀ (x_7 : Int) (w' : World),
 I [Value.int IntKind.i64 x_7] w' →
 Loc w.heap.size [Blk.mk n 42 [Value.slice ap an ac, Value.slice op on oc] 0] w' w' →
 bsp (decide (x_7 < if 30 < (↑on : Int) then 30 else (↑on : Int)))
 (nn true op fun (b o : Nat) =>
 (0 ≤ x_7 ∧ x_7 < (↑on : Int)) ∧
 ∃ (f : Nat → Int),
 ∃ (f_1 : Nat → Int),
 ∃ (x_8 : ByteArray),
 ∃ (x_9 : Int),
 ∃ (x_10 : Bool),
 ∃ (x_11 : Bool),
 ∃ (p : Option Addr),
 ∃ (n_3 : Nat),
 ∃ (c : Nat),
 ∃ (x_12 : ByteArray),
 AtL w' b (o + x_7.toNat * 55 + 1)
 (arrI IntKind.u8 f 32 0 ++ (arrI IntKind.u8 f_1 16 0 ++ [Value.string x_8, Value.int IntKind.i64 x_9, Value.bool x_10,
 Value.bool x_11, Value.slice p n_3 c, Value.string x_12])) ∧
 CallsS Tryz.prog 23
 #[Value.agg
 (arrI IntKind.u8 f 32 0 ++ (arrI IntKind.u8 f_1 16 0 ++ [Value.string x_8, Value.int IntKind.i64 x_9, Value.bool x_10,
 Value.bool x_11, Value.slice p n_3 c, Value.string x_12])).toArray]
 w' fun (e : Ending) (w'_3 : World) =>
 ∃ (f : Nat → Int),
 ∃ (f_2 : Nat → Int),
 ∃ (x_13 : ByteArray),
 ∃ (x_14 : Int),
 ∃ (x_15 : Bool),
 ∃ (x_16 : Bool),
 ∃ (p : Option Addr),
 ∃ (n_4 : Nat),
 ∃ (c : Nat),
 ∃ (x_17 : ByteArray),
 e =
 Ending.returned
 (Value.agg
 (arrI IntKind.u8 f 32 0 ++ (arrI IntKind.u8 f_2 16 0 ++ [Value.string x_13,
 Value.int IntKind.i64 x_14, Value.bool x_15,
 Value.bool x_16, Value.slice p n_4 c,
 Value.string x_17])).toArray) ∧
 KeptL [n] w' w'_3 ∧
 ∀ (n_5 : Nat) (W : World),
 Loc w.heap.size
 [Blk.mk n 42
 [Value.slice ap an ac, Value.slice op on oc] 0,
 Blk.mk n_5 56
 (arrI IntKind.u8 f 32 0 ++ (arrI IntKind.u8 f_2 16 0 ++ [Value.string x_13,
 Value.int IntKind.i64 x_14, Value.bool x_15,
 Value.bool x_16, Value.slice p n_4 c,
 Value.string x_17]))
 (wrM 2)]
 w'_3 W →
 CallsS Tryz.prog 22
 #[Value.pointer x,
 Value.agg
 (arrI IntKind.u8 f 32 0 ++ (arrI IntKind.u8 f_2 16 0 ++ [Value.string x_13,
 Value.int IntKind.i64 x_14, Value.bool x_15,
 Value.bool x_16, Value.slice p n_4 c,
 Value.string x_17])).toArray]
 W fun (e : Ending) (w'_4 : World) =>
 ∃ (x : Int),
 e = Ending.returned (Value.int IntKind.i64 x) ∧
 KeptL [n, n_5] W w'_4 ∧
 bsp (x == 7)
 (R (Ending.returned (Value.bool true)) w'_4)
 (I
 [Value.int IntKind.i64
 (IntKind.i64.wrap (x_7 + 1))]
 w'_4 ∧
 m
 [Value.int IntKind.i64
 (IntKind.i64.wrap (x_7 + 1))]
 w'_4 <
 m [Value.int IntKind.i64 x_7] w'))
 (∃ (I : List Value → World → Prop),
 ∃ (m : List Value → World → Nat),
 I [Value.int IntKind.i64 0] w' ∧
 ∀ (x_8 : Int) (w' : World),
 I [Value.int IntKind.i64 x_8] w' →
 Loc w.heap.size [Blk.mk n 42 [Value.slice ap an ac, Value.slice op on oc] 0] w'
 w' →
 bsp (decide (x_8 < if 30 < (↑on : Int) then 30 else (↑on : Int)))
 (∀ (W : World),
 Loc w.heap.size [Blk.mk n 42 [Value.slice ap an ac, Value.slice op on oc] 0]
 w' W →
 ∃ (S : World → Prop),
 S W ∧
 ∃ (p : Option Addr),
 ∃ (n_3 : Nat),
 ∃ (c : Nat),
 (∀ (w' : World),
 S w' →
 w'.cell? (Addr.mk n (0 + 1) none) = some (Value.slice p n_3 c)) ∧
 (IntKind.i64 = IntKind.i64 ∧
 (if 30 < (↑on : Int) then 30 else (↑on : Int)) ≠ 0) ∧
 nn true p fun (b o : Nat) =>
 (0 ≤
 (IntKind.i64.wrap
 (IntKind.i64.wrap
 (IntKind.i64.wrap
 ((if 30 < (↑on : Int) then 30 else (↑on : Int)) - 1) -
 x_8) +
 IntKind.i64.wrap t)).tmod
 (if 30 < (↑on : Int) then 30 else (↑on : Int)) ∧
 (IntKind.i64.wrap
 (IntKind.i64.wrap
 (IntKind.i64.wrap
 ((if 30 < (↑on : Int) then 30 else (↑on : Int)) - 1) -
 x_8) +
 IntKind.i64.wrap t)).tmod
 (if 30 < (↑on : Int) then 30 else (↑on : Int)) <
 (↑n_3 : Int)) ∧
 ∃ (f : Nat → Int),
 ∃ (f_1 : Nat → Int),
 ∃ (x : ByteArray),
 ∃ (x_9 : Int),
 ∃ (x_10 : Bool),
 ∃ (x_11 : Bool),
 ∃ (p : Option Addr),
 ∃ (n_4 : Nat),
 ∃ (c : Nat),
 ∃ (x_12 : ByteArray),
 (∀ (w' : World),
 S w' →
 AtL w' b
 (o +
 ((IntKind.i64.wrap
 (IntKind.i64.wrap
 (IntKind.i64.wrap
 ((if 30 < (↑on : Int) then 30
 else (↑on : Int)) -
 1) -
 x_8) +
 IntKind.i64.wrap t)).tmod
 (if 30 < (↑on : Int) then 30
 else (↑on : Int))).toNat *
 55 +
 1)
 (arrI IntKind.u8 f 32 0 ++ (arrI IntKind.u8 f_1 16 0 ++ [Value.string x,
 Value.int IntKind.i64 x_9, Value.bool x_10,
 Value.bool x_11, Value.slice p n_4 c,
 Value.string x_12]))) ∧
 CallsS Tryz.prog 23
 #[Value.agg
 (arrI IntKind.u8 f 32 0 ++ (arrI IntKind.u8 f_1 16 0 ++ [Value.string x,
 Value.int IntKind.i64 x_9, Value.bool x_10,
 Value.bool x_11, Value.slice p n_4 c,
 Value.string x_12])).toArray]
 W fun (e : Ending) (w'_3 : World) =>
 ∃ (f : Nat → Int),
 ∃ (f_2 : Nat → Int),
 ∃ (x : ByteArray),
 ∃ (x_13 : Int),
 ∃ (x_14 : Bool),
 ∃ (x_15 : Bool),
 ∃ (p : Option Addr),
 ∃ (n_5 : Nat),
 ∃ (c : Nat),
 ∃ (x_16 : ByteArray),
 e =
 Ending.returned
 (Value.agg
 (arrI IntKind.u8 f 32 0 ++ (arrI IntKind.u8 f_2 16 0 ++ [Value.string x,
 Value.int IntKind.i64 x_13,
 Value.bool x_14, Value.bool x_15,
 Value.slice p n_5 c,
 Value.string x_16])).toArray) ∧
 CallsS Tryz.prog 22
 #[Value.pointer x_3,
 Value.agg
 (arrI IntKind.u8 f 32 0 ++ (arrI IntKind.u8 f_2 16 0 ++ [Value.string x,
 Value.int IntKind.i64 x_13,
 Value.bool x_14, Value.bool x_15,
 Value.slice p n_5 c, Value.string x_16])).toArray]
 w'_3 fun (e : Ending) (w'_4 : World) =>
 ∃ (x : Int),
 e =
 Ending.returned
 (Value.int IntKind.i64 x) ∧
 KeptL [n] W w'_4 ∧
 I
 [Value.int IntKind.i64
 (IntKind.i64.wrap (x_8 + 1))]
 w'_4 ∧
 m
 [Value.int IntKind.i64
 (IntKind.i64.wrap (x_8 + 1))]
 w'_4 <
 m [Value.int IntKind.i64 x_8] w')
 (CallsS Tryz.prog 41 #[Value.pointer x, Value.pointer x_3] w'
 fun (e : Ending) (w'_3 : World) =>
 ∃ (x_9 : Bool),
 e = Ending.returned (Value.bool x_9) ∧
 KeptL [n] w' w'_3 ∧
 bsp (!!x_9)
 (CallsS Tryz.prog 37 #[Value.pointer x] w'_3
 fun (e : Ending) (w' : World) =>
 ∃ (p : Option Addr),
 ∃ (n_3 : Nat),
 ∃ (c : Nat),
 e = Ending.returned (Value.slice p n_3 c) ∧
 KeptL [n] w'_3 w' ∧
 CallsS Tryz.prog 37 #[Value.pointer x_3] w'
 fun (e : Ending) (w'_4 : World) =>
 ∃ (p_2 : Option Addr),
 ∃ (n_4 : Nat),
 ∃ (c_2 : Nat),
 e = Ending.returned (Value.slice p_2 n_4 c_2) ∧
 KeptL [n] w' w'_4 ∧
 CallsS Tryz.prog 36
 #[Value.slice p n_3 c, Value.slice p_2 n_4 c_2] w'_4
 fun (e : Ending) (w' : World) =>
 ∃ (x_10 : Bool),
 e = Ending.returned (Value.bool x_10) ∧
 KeptL [n] w'_4 w' ∧
 bsp (false || !x_10)
 (R (Ending.returned (Value.bool false)) w')
 (∃ (I : List Value → World → Prop),
 ∃ (m : List Value → World → Nat),
 I [Value.int IntKind.i64 0] w' ∧
 ∀ (x_11 : Int) (w' : World),
 I [Value.int IntKind.i64 x_11] w' →
 Loc w.heap.size
 [Blk.mk n 42
 [Value.slice ap an ac, Value.slice op on oc] 0]
 w' w' →
 bsp
 (decide
 (x_11 <
 if 30 < (↑on : Int) then 30 else (↑on : Int)))
 (nn true op fun (b o : Nat) =>
 (0 ≤ x_11 ∧ x_11 < (↑on : Int)) ∧
 ∃ (f : Nat → Int),
 ∃ (f_1 : Nat → Int),
 ∃ (x_12 : ByteArray),
 ∃ (x_13 : Int),
 ∃ (x_14 : Bool),
 ∃ (x_15 : Bool),
 ∃ (p : Option Addr),
 ∃ (n_5 : Nat),
 ∃ (c : Nat),
 ∃ (x_16 : ByteArray),
 AtL w' b (o + x_11.toNat * 55 + 1)
 (arrI IntKind.u8 f 32 0 ++ (arrI IntKind.u8 f_1 16 0 ++ [Value.string x_12,
 Value.int IntKind.i64 x_13,
 Value.bool x_14, Value.bool x_15,
 Value.slice p n_5 c,
 Value.string x_16])) ∧
 CallsS Tryz.prog 23
 #[Value.agg
 (arrI IntKind.u8 f 32 0 ++ (arrI IntKind.u8 f_1 16 0 ++ [Value.string x_12,
 Value.int IntKind.i64 x_13,
 Value.bool x_14,
 Value.bool x_15,
 Value.slice p n_5 c,
 Value.string x_16])).toArray]
 w'
 fun (e : Ending) (w'_5 : World) =>
 ∃ (f : Nat → Int),
 ∃ (f_2 : Nat → Int),
 ∃ (x_17 : ByteArray),
 ∃ (x_18 : Int),
 ∃ (x_19 : Bool),
 ∃ (x_20 : Bool),
 ∃ (p : Option Addr),
 ∃ (n_6 : Nat),
 ∃ (c : Nat),
 ∃ (x_21 : ByteArray),
 e =
 Ending.returned
 (Value.agg
 (arrI IntKind.u8 f 32 0 ++ (arrI IntKind.u8 f_2 16 0 ++ [Value.string x_17,
 Value.int
 IntKind.i64 x_18,
 Value.bool x_19,
 Value.bool x_20,
 Value.slice p n_6 c,
 Value.string
 x_21])).toArray) ∧
 KeptL [n] w' w'_5 ∧
 CallsS Tryz.prog 29
 #[Value.pointer x,
 Value.string x_17]
 w'_5
 fun (e : Ending)
 (w'_6 : World) =>
 ∃ (f : Nat → Int),
 ∃ (f_3 : Nat → Int),
 ∃ (x : ByteArray),
 ∃ (x_22 : Int),
 ∃ (x_23 : Bool),
 ∃ (x_24 : Bool),
 ∃ (p :
 Option Addr),
 ∃ (n_7 : Nat),
 ∃ (c : Nat),
 ∃ (x_25 :
 ByteArray),
 ∃ (x_26 :
 Bool),
 e =
 Ending.returned
 (Value.tuple
 #[Value.agg
 (arrI IntKind.u8 f 32 0 ++ (arrI IntKind.u8 f_3 16 0 ++ [Value.string
 x,
 Value.int
 IntKind.i64
 x_22,
 Value.bool
 x_23,
 Value.bool
 x_24,
 Value.slice
 p
 n_7
 c,
 Value.string
 x_25])).toArray,
 Value.bool
 x_26]) ∧
 KeptL [n]
 w'_5
 w'_6 ∧
 ∀
 (n_8 :
 Nat)
 (W :
 World),
 Loc
 w.heap.size
 [Blk.mk
 n 42
 [Value.slice
 ap
 an
 ac,
 Value.slice
 op
 on
 oc]
 0,
 Blk.mk
 n_8
 56
 (arrI IntKind.u8 f 32 0 ++ (arrI IntKind.u8 f_3 16 0 ++ [Value.string
 x,
 Value.int
 IntKind.i64
 x_22,
 Value.bool
 x_23,
 Value.bool
 x_24,
 Value.slice
 p
 n_7
 c,
 Value.string
 x_25]))
 (wrM
 2)]
 w'_6
 W →
 CallsS
 Tryz.prog
 29
 #[Value.pointer
 x_3,
 Value.string
 x_17]
 W
 fun
 (e :
 Ending)
 (w'_7 :
 World) =>
 ∃ (f_4
 :
 Nat →
 Int),
 ∃
 (f_5
 :
 Nat →
 Int),
 ∃
 (x_27
 :
 ByteArray),
 ∃
 (x_28
 :
 Int),
 ∃
 (x_29
 :
 Bool),
 ∃
 (x_30
 :
 Bool),
 ∃
 (p_3
 :
 Option
 Addr),
 ∃
 (n_9
 :
 Nat),
 ∃
 (c_3
 :
 Nat),
 ∃
 (x_31
 :
 ByteArray),
 ∃
 (x_32
 :
 Bool),
 e =
 Ending.returned
 (Value.tuple
 #[Value.agg
 (arrI IntKind.u8 f_4 32 0 ++ (arrI IntKind.u8 f_5 16 0 ++ [Value.string
 x_27,
 Value.int
 IntKind.i64
 x_28,
 Value.bool
 x_29,
 Value.bool
 x_30,
 Value.slice
 p_3
 n_9
 c_3,
 Value.string
 x_31])).toArray,
 Value.bool
 x_32]) ∧
 KeptL
 [n,
 n_8]
 W
 w'_7 ∧
 ∀
 (n_10 :
 Nat)
 (W :
 World),
 Loc
 w.heap.size
 [Blk.mk
 n
 42
 [Value.slice
 ap
 an
 ac,
 Value.slice
 op
 on
 oc]
 0,
 Blk.mk
 n_10
 56
 (arrI IntKind.u8 f_4 32 0 ++ (arrI IntKind.u8 f_5 16 0 ++ [Value.string
 x_27,
 Value.int
 IntKind.i64
 x_28,
 Value.bool
 x_29,
 Value.bool
 x_30,
 Value.slice
 p_3
 n_9
 c_3,
 Value.string
 x_31]))
 (wrM
 2),
 Blk.mk
 n_8
 56
 (arrI IntKind.u8 f 32 0 ++ (arrI IntKind.u8 f_3 16 0 ++ [Value.string
 x,
 Value.int
 IntKind.i64
 x_22,
 Value.bool
 x_23,
 Value.bool
 x_24,
 Value.slice
 p
 n_7
 c,
 Value.string
 x_25]))
 0]
 w'_7
 W →
 bsp
 (!!x_26 ==
 x_32)
 (CallsS
 Tryz.prog
 27
 #[Value.agg
 (arrI IntKind.u8 f 32 0 ++ (arrI IntKind.u8 f_3 16 0 ++ [Value.string
 x,
 Value.int
 IntKind.i64
 x_22,
 Value.bool
 x_23,
 Value.bool
 x_24,
 Value.slice
 p
 n_7
 c,
 Value.string
 x_25])).toArray,
 Value.agg
 (arrI IntKind.u8 f_4 32 0 ++ (arrI IntKind.u8 f_5 16 0 ++ [Value.string
 x_27,
 Value.int
 IntKind.i64
 x_28,
 Value.bool
 x_29,
 Value.bool
 x_30,
 Value.slice
 p_3
 n_9
 c_3,
 Value.string
 x_31])).toArray]
 W
 fun
 (e :
 Ending)
 (w'_8 :
 World) =>
 ∃
 (x
 :
 Bool),
 e =
 Ending.returned
 (Value.bool
 x) ∧
 KeptL
 [n,
 n_10,
 n_8]
 W
 w'_8 ∧
 bsp
 (false ||
 !x)
 (R
 (Ending.returned
 (Value.bool
 false))
 w'_8)
 (I
 [Value.int
 IntKind.i64
 (IntKind.i64.wrap
 (x_11 +
 1))]
 w'_8 ∧
 m
 [Value.int
 IntKind.i64
 (IntKind.i64.wrap
 (x_11 +
 1))]
 w'_8 <
 m
 [Value.int
 IntKind.i64
 x_11]
 w'))
 (KeptL
 [n,
 n_10,
 n_8]
 W
 W ∧
 R
 (Ending.returned
 (Value.bool
 false))
 W))
 (R (Ending.returned (Value.bool true)) w')))
 (KeptL [n] w'_3 w'_3 ∧
 KeptL [n] w'_3 w'_3 ∧
 KeptL [n] w'_3 w'_3 ∧ R (Ending.returned (Value.bool false)) w'_3))))
theorem vc_lrorder (ap : Option Addr) (an : Nat) (ac : Nat) (op : Option Addr) (on : Nat) (oc : Nat) (t : Int) (w : World) (R : Ending → World → Prop) (h : VC_lrorder ap an ac op on oc t w R) : Calls Tryz.prog 9 ([Value.agg
    #[Value.slice ap an ac, Value.slice op on oc],
  Value.int IntKind.u8 t] : List Value).toArray w R := by
  have e : execR2 { P := Tryz.prog, loops := [(8, [(14, Ck.int IntKind.i64)]), (14, [(16, Ck.int IntKind.i64)]), (20, [(17, Ck.int IntKind.i64)])], pur := pur1, tails := [(16, 15)], joins := [], boxes := [] } Tryz.f9.results.toList R (Tryz.f9.body.getD .skip) (initF [Value.agg
    #[Value.slice ap an ac, Value.slice op on oc],
  Value.int IntKind.u8
    t] (Tryz.f9.ntmps - ([Value.agg #[Value.slice ap an ac, Value.slice op on oc],
  Value.int IntKind.u8 t] : List Value).length)) w = VC_lrorder ap an ac op on oc t w R := by kernel_rfl
  have hb : Tryz.f9.body = some (Tryz.f9.body.getD .skip) := by kernel_rfl
  exact calls_of_exec2' (P := Tryz.prog) (fn := Tryz.f9) (c := Tryz.f9.body.getD .skip) (args := [Value.agg
    #[Value.slice ap an ac, Value.slice op on oc],
  Value.int IntKind.u8 t]) (w := w) (R := R) pur1_ok Tryz.func9 hb e h

end Go.Proofs.YtkkfnlehlkiejaaGreatDoor

/- Chapter 21: RegistryOrder on worlds. No condition but what a reading gives. -/
namespace Go.Proofs.YtkkfnlehlkiejaaGreatDoor
open Go.RowKit Go.Maps

/-! ### Plain -/
def valD (A : List Au) (d : Df) : Bool := decide (dchk d = 0) && isAu A d.g d.au
section
variable {A : List Au} {l : List (List Int × DX)} {d : Df}
theorem addE_val (h7 : addE A l d ≠ 7) (hl : l.length < 4096) : addE A l d = 0 ↔ valD A d = true := by
  unfold valD
  rw [Bool.and_eq_true, decide_eq_true_eq]
  constructor
  · intro h
    obtain ⟨z1, z2, _⟩ := addE_zero h
    exact ⟨z1, z2⟩
  · rintro ⟨h1, h2⟩
    have h3 : ¬ (aget l (idI d.id)).isSome = true := fun h => h7 (by
      unfold addE
      rw [if_neg (by rw [h1]; decide), if_neg (by rw [h2]; decide), if_pos h])
    unfold addE
    rw [if_neg (by rw [h1]; decide), if_neg (by rw [h2]; decide), if_neg h3, if_neg (by omega)]
theorem addE_new (hv : valD A d = true) (hn : aget l (idI d.id) = none) (hl : l.length < 4096) : addE A l d = 0 := by
  unfold valD at hv
  rw [Bool.and_eq_true, decide_eq_true_eq] at hv
  exact addE_ok hv.1 hv.2 hn hl
theorem addE_inv (hv : valD A d = false) : addE A l d ≠ 0 := fun h => by
  obtain ⟨z1, z2, _⟩ := addE_zero h
  unfold valD at hv
  rw [decide_eq_true z1, z2] at hv
  cases hv
end
/-- The order in which the second registry gets the definitions. -/
def vis (n t : Nat) : List Nat := (List.range n).map fun i => (n - 1 - i + t) % n
theorem mod_same {n a b : Nat} (hab : a ≤ b) (hd : b < a + n) (h : a % n = b % n) : a = b := by
  have h1 := Nat.div_add_mod a n
  have h2 := Nat.div_add_mod b n
  rcases Nat.lt_trichotomy (a / n) (b / n) with h3 | h3 | h3
  · have h4 : n * (a / n + 1) ≤ n * (b / n) := Nat.mul_le_mul_left _ h3
    rw [Nat.mul_add, Nat.mul_one] at h4
    omega
  · rw [h3] at h1; omega
  · have h4 : n * (b / n) ≤ n * (a / n) := Nat.mul_le_mul_left _ (by omega)
    omega
theorem vis_nodup (n t : Nat) : (vis n t).Nodup := by
  show List.Pairwise _ _
  unfold vis
  rw [List.pairwise_map]
  refine List.pairwise_iff_getElem.2 fun i j hi hj hij => ?_
  have hi' : i < n := by simpa using hi
  have hj' : j < n := by simpa using hj
  simp only [List.getElem_range]
  intro h
  have := mod_same (n := n) (a := n - 1 - j + t) (b := n - 1 - i + t) (by omega) (by omega) h.symm
  omega
theorem vis_perm (n t : Nat) : (vis n t).Perm (List.range n) := by
  obtain ⟨r, hr⟩ := nodup_perm (vis_nodup n t) (l2 := List.range n) (fun x hx => by
    obtain ⟨i, hi, rfl⟩ := List.mem_map.1 hx
    have hi := List.mem_range.1 hi
    exact List.mem_range.2 (Nat.mod_lt _ (by omega)))
  have hrn : r = [] := by
    have := hr.length_eq
    simp only [List.length_append, vis, List.length_map, List.length_range] at this
    exact List.eq_nil_of_length_eq_zero (by omega)
  rw [hrn, List.append_nil] at hr
  exact hr
theorem vis_get {n t i : Nat} (h : i < n) : (vis n t)[i]? = some ((n - 1 - i + t) % n) := by
  unfold vis
  rw [List.getElem?_map, List.getElem?_range h]; rfl
theorem range_map (D : List Df) : (List.range D.length).map (fun j => D.getD j dz) = D := by
  apply List.ext_getElem?
  intro i
  rw [List.getElem?_map]
  rcases Nat.lt_or_ge i D.length with h | h
  · rw [List.getElem?_range h]
    simp [List.getD_eq_getElem?_getD, List.getElem?_eq_getElem h]
  · rw [List.getElem?_eq_none (by simpa using h), List.getElem?_eq_none h]; rfl
section
variable {w : World} {b mb : Nat} {A : List Au} {l : List (List Int × DX)}
def cont (l : List (List Int × DX)) : List Df := l.map fun q => q.2.d
theorem Reg.dl (h : Reg w b mb A l) : DL l (l.map fun q => q.2) := ⟨by rw [List.map_map]; rfl, fun p hp => (h.ok p.1 p.2 (aget_at h.dis hp)).2.2.1, h.dis⟩
theorem Reg.oks (h : Reg w b mb A l) : ∀ d ∈ cont l, d.OK := fun d hd => by
  obtain ⟨p, hp, rfl⟩ := List.mem_map.1 hd
  exact (h.ok p.1 p.2 (aget_at h.dis hp)).2.2.2
theorem Reg.ids (h : Reg w b mb A l) : (cont l).Pairwise fun x y => idI x.id ≠ idI y.id := by
  unfold cont
  rw [List.pairwise_map]
  refine List.pairwise_iff_getElem.2 fun i j hi hj hij => ?_
  have h1 := List.pairwise_iff_getElem.1 h.dis i j hi hj hij
  rw [← h.dl.key _ (List.getElem_mem hi), ← h.dl.key _ (List.getElem_mem hj)]
  exact h1
theorem Reg.none_of (h : Reg w b mb A l) {a : List Int} (ha : ∀ d ∈ cont l, idI d.id ≠ a) : aget l a = none := by
  rw [aget_none]
  intro p hp e
  exact ha p.2.d (List.mem_map.2 ⟨p, hp, rfl⟩) (by rw [← h.dl.key p hp]; exact e)
/-- Sorted lists of the same definitions. -/
theorem Reg.uniq (h : Reg w b mb A l) {L1 L2 : List Df} (hp : L1.Perm L2) (hs : ∀ d ∈ L1, d ∈ cont l) (s1 : L1.Pairwise fun x y => ¬ cfd y x < 0) (s2 : L2.Pairwise fun x y => ¬ cfd y x < 0) : L1 = L2 := by
  refine perm_uniq21 (R := fun x y => ¬ cfd y x < 0) hp s1 s2 fun x hx y hy h1 h2 => ?_
  have hx := hs x hx
  have hy := hs y hy
  have h3 := cfd_anti x y
  have h4 := cfd_zero (h.oks x hx) (h.oks y hy) (by omega)
  obtain ⟨i, hi, rfl⟩ := List.getElem_of_mem hx
  obtain ⟨j, hj, rfl⟩ := List.getElem_of_mem hy
  rcases Nat.lt_trichotomy i j with h5 | h5 | h5
  · exact absurd h4 (List.pairwise_iff_getElem.1 h.ids i j hi hj h5)
  · subst h5; rfl
  · exact absurd h4.symm (List.pairwise_iff_getElem.1 h.ids j i hj hi h5)
end
theorem acc_cont (l : List (List Int × DX)) (s : ByteArray) : accL (fun x => decide (x.d.g = s)) l = (cont l).filter fun d => decide (d.g = s) := by
  unfold accL cont
  simp only [List.filter_map, List.map_map, Function.comp_def]

end Go.Proofs.YtkkfnlehlkiejaaGreatDoor

/- Chapter 21: RegistryOrder on worlds. No condition but what a reading gives. -/
namespace Go.Proofs.YtkkfnlehlkiejaaGreatDoor
open Go.RowKit Go.Maps

theorem ifMin (n : Nat) : (if (30 : Int) < (n : Int) then (30 : Int) else (n : Int)) = ((min n 30 : Nat) : Int) := by split <;> omega
theorem filter_snoc {D : List Df} {p : Df → Bool} {i : Nat} {d : Df} (h : D[i]? = some d) : (D.take (i + 1)).filter p = (D.take i).filter p ++ (if p d = true then [d] else []) := by
  rw [take_snoc h, List.filter_append, List.filter_cons]
  rfl
theorem cont_new {l : List (List Int × DX)} {x : DX} : cont (l ++ [(idI x.d.id, x)]) = cont l ++ [x.d] := by simp [cont]
theorem Reg.ok8 {w : World} {b mb : Nat} {A : List Au} {l : List (List Int × DX)} (h : Reg w b mb A l) : ∀ d ∈ cont l, d.OK ∧ d.ms.length ≤ 8 := fun d hd => by
  obtain ⟨p, hp, rfl⟩ := List.mem_map.1 hd
  have := h.ok p.1 p.2 (aget_at h.dis hp)
  exact ⟨this.2.2.2, (dchk_sz this.1).2.2.2.1⟩
theorem jdx {N i t : Nat} (hi : i < N) (hN : N ≤ 30) (ht : t ≤ 255) : (IntKind.i64.wrap (IntKind.i64.wrap (IntKind.i64.wrap ((N : Int) - 1) - (i : Int)) + IntKind.i64.wrap (t : Int))).tmod (N : Int) = (((N - 1 - i + t) % N : Nat) : Int) := by
  have e1 : IntKind.i64.wrap ((N : Int) - 1) = ((N - 1 : Nat) : Int) := by rw [wr64 (by omega) (by omega)]; omega
  have e2 : IntKind.i64.wrap (((N - 1 : Nat) : Int) - (i : Int)) = ((N - 1 - i : Nat) : Int) := by rw [wr64 (by omega) (by omega)]; omega
  have e3 : IntKind.i64.wrap (t : Int) = (t : Int) := wr64 (by omega) (by omega)
  have e4 : IntKind.i64.wrap (((N - 1 - i : Nat) : Int) + (t : Int)) = ((N - 1 - i + t : Nat) : Int) := by rw [wr64 (by omega) (by omega)]; omega
  rw [e1, e2, e3, e4]
  rfl
set_option maxRecDepth 100000 in
set_option maxHeartbeats 16000000 in
theorem lrorder_any (As : List Au) (ap : Option Addr) (ac : Nat) (Os : List OpY) (op : Option Addr) (oc : Nat) (t : Nat) (w : World) (hA : RowA atC 17 w ap As) (hB : ∀ x ∈ As, BY x.au) (hO : RowA opC 55 w op Os) (hR : ∀ x ∈ Os, DfR w x.x) (ht : t ≤ 255) (hG : GW w) :
    Calls Tryz.prog 9 #[.agg #[.slice ap As.length ac, .slice op Os.length oc], .int .u8 (t : Int)] w fun e w' => e = .returned (.bool true) ∧ K0 w w' := by
  refine vc_lrorder ap As.length ac op Os.length oc (t : Int) w _ (fun n W hW => ?_)
  have kW : K0 w W := hW.kk rfl
  have hG' : ∀ {wa : World}, K0 w wa → GW wa := fun k => hG.kp k (fun h => h)
  rw [ifMin Os.length]
  refine ⟨(lauths_any As ap ac W (hA.k0 kW)).mono fun e w1 ⟨⟨p1, c1, p2, c2, he, hr1, hr2⟩, k1⟩ => ⟨_, _, _, _, _, _, he, .of_k0 k1, ?_⟩⟩
  have hB' := autL_BY hB
  have hS := @autL_sz As
  generalize autL As = A at *
  have k01 := kW.trans k1
  refine ⟨(rnew_any A p1 c1 w1 hr1 hB' hS (hG' k01)).mono fun e w2 ⟨hQ, k2⟩ => ?_⟩
  have k02 := k01.trans k2
  rcases hQ with ⟨h64, he⟩ | ⟨h64, hnz, he⟩ | ⟨h64, hz, b1, m1, he, hRa, gb1, gm1⟩
  · refine ⟨_, _, _, he, .of_k0 k2, ⟨(rnew_any A p1 c1 w2 (hr1.k0 k2) hB' hS (hG' k02)).mono fun e w3 ⟨hQ, k3⟩ => ?_⟩⟩
    have k03 := k02.trans k3
    rcases hQ with ⟨_, he⟩ | ⟨h, _⟩ | ⟨h, _⟩
    · refine ⟨_, _, _, he, .of_k0 k3, ⟨(known_any w3 (hG' k03)).mono fun e w4 ⟨he, k4⟩ => ⟨_, he, .of_k0 k4, bsp_intro (fun _ => ?_) (fun h => by simp at h)⟩⟩⟩
      exact ⟨(known_any w4 (hG' (k03.trans k4))).mono fun e w5 ⟨he, k5⟩ => ⟨_, he, .of_k0 k5, rfl, (k03.trans k4).trans k5⟩⟩
    · omega
    · omega
  · refine ⟨_, _, _, he, .of_k0 k2, ⟨(rnew_any A p1 c1 w2 (hr1.k0 k2) hB' hS (hG' k02)).mono fun e w3 ⟨hQ, k3⟩ => ?_⟩⟩
    have k03 := k02.trans k3
    rcases hQ with ⟨h, _⟩ | ⟨_, _, he⟩ | ⟨_, h, _⟩
    · omega
    · refine ⟨_, _, _, he, .of_k0 k3, ⟨(known_any w3 (hG' k03)).mono fun e w4 ⟨he, k4⟩ => ⟨_, he, .of_k0 k4, bsp_intro (fun _ => ?_) (fun h => by exfalso; simp at h; exact hnz h)⟩⟩⟩
      exact ⟨(known_any w4 (hG' (k03.trans k4))).mono fun e w5 ⟨he, k5⟩ => ⟨_, he, .of_k0 k5, by simp, (k03.trans k4).trans k5⟩⟩
    · rw [h] at hnz; exact absurd rfl hnz
  refine ⟨_, _, _, he, .of_k0 k2, ⟨(rnew_any A p1 c1 w2 (hr1.k0 k2) hB' hS (hG' k02)).mono fun e w3 ⟨hQ, k3⟩ => ?_⟩⟩
  have k03 := k02.trans k3
  rcases hQ with ⟨h, _⟩ | ⟨_, h, _⟩ | ⟨_, _, b2, m2, he, hRb, gb2, gm2⟩
  · omega
  · rw [hz] at h; exact absurd rfl h
  refine ⟨_, _, _, he, .of_k0 k3, ⟨(known_any w3 (hG' k03)).mono fun e w4 ⟨he, k4⟩ => ⟨_, he, .of_k0 k4, bsp_intro (fun h => by simp at h) (fun _ => ?_)⟩⟩⟩
  have hm12 : m2 ≠ m1 := by have := hRa.map.lt; omega
  have k04 := k03.trans k4
  have gw1 : w.heap.size ≤ m1 := Nat.le_trans k01.size gm1
  have gw2 : w.heap.size ≤ m2 := Nat.le_trans k02.size gm2
  have hRa := (hRa.k0 k3).k0 k4
  have hRb := hRb.k0 k4
  obtain ⟨N, hN⟩ : ∃ N, N = min Os.length 30 := ⟨_, rfl⟩
  rw [← hN]
  have hN1 : N ≤ Os.length := by omega
  have hN2 : N ≤ 30 := by omega
  obtain ⟨D, hD⟩ : ∃ D : List Df, D = (Os.take N).map fun o => toD o.x.d := ⟨_, rfl⟩
  have hDl : D.length = N := by rw [hD, List.length_map, List.length_take]; omega
  have hDg : ∀ (i : Nat) (o : OpY), i < N → Os[i]? = some o → D[i]? = some (toD o.x.d) := fun i o hi ho => by
    rw [hD, List.getElem?_map, List.getElem?_take, if_pos hi, ho]; rfl
  have hmb : ∀ {wa : World} {b m : Nat} {l : List (List Int × DX)} {y : Nat} {c : Array Value} {T : TypeId} {fz : Nat × Nat}, Reg wa b m A l → wa.heap[y]? = some (.cells c T fz) → y ≠ m := fun h hy e => by
    subst e
    obtain ⟨es, cm, hh, _⟩ := h.map.blk
    rw [hy] at hh; cases hh
  have hatD : ∀ {wx : World} {o : OpY} {bb oo k : Nat}, AtL wx bb (oo + k * 55) (opC o) → AtL wx bb (oo + k * 55 + 1) (dfC o.x) := fun {wx o bb oo k} hat => ⟨At_of _ _ fun j v hv => by
    have := hat.cell (j := j + 1) (v := v) (by simpa [opC] using hv)
    rw [show oo + k * 55 + (j + 1) = oo + k * 55 + 1 + j by omega] at this
    exact this⟩
  refine ⟨fun vs w' => ∃ (i : Nat) (la : List (List Int × DX)), vs = [.int .i64 (i : Int)] ∧ i ≤ N ∧ la.length ≤ i ∧ cont la = (D.take i).filter (valD A) ∧ Reg w' b1 m1 A la ∧ Reg w' b2 m2 A [] ∧ K0 w w',
    fun vs _ => (match vs with | .int _ a :: _ => N - a.toNat | _ => 0), ⟨0, [], rfl, by omega, by simp, rfl, hRa, hRb, k04⟩, ?_⟩
  rintro x w5 ⟨i, la, hv, hi, hla, hc, hRa, hRb, k5⟩ hL5
  simp only [List.cons.injEq, Value.int.injEq, true_and, and_true] at hv
  subst hv
  refine bsp_intro (fun hlt => ?_) (fun hge => ?_)
  · have hlt : i < N := by simp at hlt; omega
    obtain ⟨o, bb, oo, ho, hp, hat⟩ := (hO.k0 k5).get (k := i) (by omega)
    have hDf := hR o (List.mem_of_getElem? ho)
    have zx := toD_OK hDf.ok
    have hdi := hDg i o hlt ho
    rw [Int.toNat_natCast]
    refine nn_is hp ⟨⟨by omega, by omega⟩, o.x.d.id, o.x.d.au, o.x.d.g, o.x.d.v, o.x.d.rm, o.x.d.md, o.x.p, o.x.d.ms.length, o.x.c, o.x.d.tx, hatD hat, ?_⟩
    refine ⟨(lto_any o.x w5 (hDf.row.k0 k5)).mono fun e w6 ⟨⟨q, cq, he, hmo⟩, k6⟩ => ⟨_, _, _, _, _, _, _, _, _, _, he, .of_k0 k6, fun n5 W7 hW7 => ?_⟩⟩
    have k7 : K0 w6 W7 := hW7.kk rfl
    have k57 := k6.trans k7
    have hn := hW7.cells 0 rfl
    have hn5 := hW7.cells 1 rfl
    have hRa7 := hRa.k0 k57
    have hRb7 := hRb.k0 k57
    have k07 := k5.trans k57
    refine ⟨(radd_any hRa7 h64 ⟨toD o.x.d, q, cq⟩ (hmo.k0 k7).row (own_le hmo) zx (hG' k07)).mono fun e w8 ⟨he, hQ⟩ => ?_⟩
    have hk8 : ∀ {y : Nat}, Kp (· = m1) W7 w8 → y ∈ [n, n5] → ¬ y = m1 := fun {y} _ hy e => by
      simp only [List.mem_cons, List.not_mem_nil, or_false] at hy
      rcases hy with hy | hy
      · subst hy; exact hmb hRa7 hn e
      · subst hy; exact hmb hRa7 hn5 e
    by_cases h7 : addE A la (toD o.x.d) = 7
    · rcases hQ with ⟨_, _, k8⟩ | ⟨h0, _⟩
      · exact ⟨_, he, .of_k0 k8, bsp_intro (fun _ => ⟨rfl, k07.trans k8⟩) (fun h => by exfalso; rw [show addE A la (DX.mk (toD o.x.d) q cq).d = 7 from h7] at h; cases h)⟩
      · have h0 : addE A la (toD o.x.d) = 0 := h0
        rw [h7] at h0; cases h0
    have hval := addE_val h7 (by omega)
    rcases hQ with ⟨hnz, hR8, k8⟩ | ⟨h0, p', c', hR8, _, k8⟩
    · refine ⟨_, he, .of_k0 k8, bsp_intro (fun h => by exfalso; exact h7 (by simpa using h)) (fun _ => ⟨⟨i + 1, la, by rw [inc64 (by omega)], hlt, by omega, ?_, hR8, hRb7.k0 k8, k07.trans k8⟩, by rw [inc64 (by omega)]; simp only [Int.toNat_natCast]; omega⟩)⟩
      rw [filter_snoc hdi, if_neg (fun h => hnz (hval.2 h)), List.append_nil]; exact hc
    · obtain ⟨_, _, z3, _⟩ := addE_zero h0
      rw [aset_new (aget_none.1 z3)] at hR8
      obtain ⟨es, cm, hmm, _⟩ := hRa7.map.blk
      refine ⟨_, he, .of_kp k8 (fun y hy e => hk8 k8 hy e), bsp_intro (fun h => by exfalso; exact h7 (by simpa using h)) (fun _ => ⟨⟨i + 1, _, by rw [inc64 (by omega)], hlt, ?_, ?_, hR8, hRb7.kpM k8 hmm hm12, k07.fresh k8 (fun j hj e => by omega)⟩, by rw [inc64 (by omega)]; simp only [Int.toNat_natCast]; omega⟩)⟩
      · rw [List.length_append]; simp only [List.length_cons, List.length_nil]; omega
      · rw [cont_new (x := ⟨toD o.x.d, p', c'⟩), filter_snoc hdi, if_pos (hval.1 h0), hc]
  have hiN : i = N := by simp at hge; omega
  subst hiN
  rw [← hDl, List.take_length] at hc
  have hids := hRa.ids
  rw [hc, List.pairwise_filter] at hids
  obtain ⟨f, hf⟩ : ∃ f : Nat → Df, f = fun j => D.getD j dz := ⟨_, rfl⟩
  have hfD : ∀ (j : Nat) (o : OpY), j < i → Os[j]? = some o → f j = toD o.x.d := fun j o hj ho => by
    rw [hf]
    simp [List.getD_eq_getElem?_getD, hDg j o hj ho]
  have hfa : ∀ j j', j < i → j' < i → j ≠ j' → valD A (f j) = true → valD A (f j') = true → idI (f j).id ≠ idI (f j').id := fun j j' hj hj' hne v1 v2 => by
    have e1 : ∀ k (hk : k < i), f k = D[k]'(by omega) := fun k hk => by
      rw [hf]
      simp [List.getD_eq_getElem?_getD, List.getElem?_eq_getElem (show k < D.length by omega)]
    rw [e1 j hj] at v1 ⊢
    rw [e1 j' hj'] at v2 ⊢
    rcases Nat.lt_or_gt_of_ne hne with h | h
    · exact List.pairwise_iff_getElem.1 hids j j' (by omega) (by omega) h v1 v2
    · exact fun e => List.pairwise_iff_getElem.1 hids j' j (by omega) (by omega) h v2 v1 e.symm
  refine ⟨fun vs w' => ∃ (k : Nat) (lb : List (List Int × DX)), vs = [.int .i64 (k : Int)] ∧ k ≤ i ∧ lb.length ≤ k ∧ cont lb = (((vis i t).take k).map f).filter (valD A) ∧ Reg w' b1 m1 A la ∧ Reg w' b2 m2 A lb ∧ K0 w w',
    fun vs _ => (match vs with | .int _ a :: _ => i - a.toNat | _ => 0), ⟨0, [], rfl, by omega, by simp, rfl, hRa, hRb, k5⟩, ?_⟩
  rintro x w5 ⟨k, lb, hv, hk, hlb, hcb, hRa, hRb, k5⟩ hL5
  simp only [List.cons.injEq, Value.int.injEq, true_and, and_true] at hv
  subst hv
  refine bsp_intro (fun hlt => fun W6 hW6 => ?_) (fun hge => ?_)
  · have hlt : k < i := by simp at hlt; omega
    have k6 : K0 w5 W6 := hW6.kk rfl
    have k06 := k5.trans k6
    have hn := hW6.cells 0 rfl
    rw [jdx hlt hN2 ht]
    have hj : (i - 1 - k + t) % i < i := Nat.mod_lt _ (by omega)
    have hvk := vis_get (t := t) hlt
    generalize (i - 1 - k + t) % i = j at hj hvk ⊢
    obtain ⟨o, bb, oo, ho, hp, hat⟩ := (hO.k0 k06).get (k := j) (by omega)
    have hDf := hR o (List.mem_of_getElem? ho)
    have zx := toD_OK hDf.ok
    have hfj := hfD j o hj ho
    rw [Int.toNat_natCast]
    refine ⟨fun wx => K0 W6 wx, .refl _ _, op, Os.length, oc, fun wx k => cell_at (k.blk hn (fun h => h)) rfl, ⟨rfl, by omega⟩, nn_is hp ⟨⟨by omega, by omega⟩, o.x.d.id, o.x.d.au, o.x.d.g, o.x.d.v, o.x.d.rm, o.x.d.md, o.x.p, o.x.d.ms.length, o.x.c, o.x.d.tx, fun wx k => (hatD hat).k0 k, ?_⟩⟩
    refine ⟨(lto_any o.x W6 (hDf.row.k0 k06)).mono fun e w7 ⟨⟨q, cq, he, hmo⟩, k7⟩ => ⟨_, _, _, _, _, _, _, _, _, _, he, ?_⟩⟩
    have k67 := k6.trans k7
    have hRa7 := hRa.k0 k67
    have hRb7 := hRb.k0 k67
    have k07 := k06.trans k7
    have hn7 := k7.blk hn (fun h => h)
    have hsn : ((vis i t).take (k + 1)).map f = ((vis i t).take k).map f ++ [toD o.x.d] := by rw [take_snoc hvk, List.map_append, ← hfj]; rfl
    refine ⟨(radd_any hRb7 h64 ⟨toD o.x.d, q, cq⟩ hmo.row (own_le hmo) zx (hG' k07)).mono fun e w8 ⟨he, hQ⟩ => ?_⟩
    by_cases hvd : valD A (toD o.x.d) = true
    · have hnn : aget lb (idI (toD o.x.d).id) = none := hRb.none_of fun d' hd' e => by
        rw [hcb] at hd'
        obtain ⟨hd1, hv'⟩ := List.mem_filter.1 hd'
        obtain ⟨j', hj', rfl⟩ := List.mem_map.1 hd1
        obtain ⟨s, hs⟩ := List.getElem?_of_mem hj'
        rw [List.getElem?_take] at hs
        split at hs
        · rename_i hsk
          have hj'i : j' < i := by
            rw [vis_get (t := t) (by omega)] at hs
            cases hs
            exact Nat.mod_lt _ (by omega)
          have hne : j' ≠ j := fun e => by
            subst e
            obtain ⟨h1, e1⟩ := List.getElem?_eq_some_iff.1 hs
            obtain ⟨h2, e2⟩ := List.getElem?_eq_some_iff.1 hvk
            exact List.pairwise_iff_getElem.1 (vis_nodup i t) s k h1 h2 hsk (e1.trans e2.symm)
          rw [← hfj] at hvd e
          exact hfa j' j hj'i hj hne hv' hvd e
        · cases hs
      have h0' := addE_new (l := lb) hvd hnn (by omega)
      rcases hQ with ⟨hnz, _⟩ | ⟨h0, p', c', hR8, _, k8⟩
      · exact absurd h0' hnz
      rw [aset_new (aget_none.1 hnn)] at hR8
      obtain ⟨es, cm, hmm, _⟩ := hRb7.map.blk
      refine ⟨_, he, .of_kp ((k7.mono fun _ _ h => h.elim).trans k8) (fun y hy e => ?_), ⟨k + 1, _, by rw [inc64 (by omega)], hlt, ?_, ?_, hRa7.kpM k8 hmm (fun e => hm12 e.symm), hR8, k07.fresh k8 (fun j hj e => by omega)⟩, by rw [inc64 (by omega)]; simp only [Int.toNat_natCast]; omega⟩
      · simp only [List.mem_cons, List.not_mem_nil, or_false] at hy
        subst hy
        exact hmb hRb7 hn7 e
      · rw [List.length_append]; simp only [List.length_cons, List.length_nil]; omega
      · rw [cont_new (x := ⟨toD o.x.d, p', c'⟩), hsn, List.filter_append, hcb, List.filter_cons, if_pos hvd]; rfl
    · have hvf : valD A (toD o.x.d) = false := by simpa using hvd
      rcases hQ with ⟨hnz, hR8, k8⟩ | ⟨h0, _⟩
      · refine ⟨_, he, .of_k0 (k7.trans k8), ⟨k + 1, lb, by rw [inc64 (by omega)], hlt, by omega, ?_, hRa7.k0 k8, hR8, k07.trans k8⟩, by rw [inc64 (by omega)]; simp only [Int.toNat_natCast]; omega⟩
        rw [hsn, List.filter_append, hcb, List.filter_cons, if_neg hvd]; simp
      · exact absurd h0 (addE_inv hvf)
  have hki : k = i := by simp at hge; omega
  subst hki
  have hvl : (vis k t).length = k := by simp [vis]
  rw [List.take_of_length_le (by omega)] at hcb
  have hperm : (cont lb).Perm (cont la) := by
    rw [hcb, hc]
    refine List.Perm.filter _ ?_
    have h1 := (vis_perm k t).map f
    have h2 : (List.range k).map f = D := by rw [hf, ← hDl]; exact range_map D
    rw [h2] at h1
    exact h1
  have hlE : la.length ≤ 4096 := by omega
  have hlb' : lb.length ≤ 4096 := by omega
  have hEq : EqM la lb := eqM_perm hRb.dis hRa.dl.key hRb.dl.key hperm.symm
  refine ⟨(requal_any hRa hRb h64 hS).mono fun e w6 ⟨he, k6⟩ => ?_⟩
  rw [hEq.eq hRa.dis] at he
  refine ⟨_, he, .of_k0 k6, bsp_intro (fun _ => ?_) (fun h => by cases h)⟩
  refine ⟨(rgroups_any (hRa.k0 k6) hlE).mono fun e w7 ⟨⟨L1, p3, c3, hp1, hs1, he, ho1⟩, k7⟩ => ⟨_, _, _, he, .of_k0 k7, ?_⟩⟩
  have k67 := k6.trans k7
  refine ⟨(rgroups_any (hRb.k0 k67) hlb').mono fun e w8 ⟨⟨L2, p4, c4, hp2, hs2, he, ho2⟩, k8⟩ => ⟨_, _, _, he, .of_k0 k8, ?_⟩⟩
  have hp1' : L1.Perm (cont la) := hp1
  have hp2' : L2.Perm (cont lb) := hp2
  have hL12 : L1 = L2 := hRa.uniq ((hp1'.trans hperm.symm).trans hp2'.symm) (fun d hd => hp1'.subset hd) hs1 hs2
  subst hL12
  have hgl : (grpP L1 ⟨#[]⟩).length ≤ 1000000 := by
    have key : ∀ (L : List Df) (last : ByteArray), (grpP L last).length ≤ L.length := by
      intro L
      induction L with
      | nil => intro last; exact Nat.le_refl _
      | cons d r ih =>
        intro last
        have := ih d.g
        rw [grpP]
        split <;> simp only [List.length_cons] <;> omega
    have h1 := key L1 ⟨#[]⟩
    have h2 := hp1.length_eq
    rw [List.length_map] at h2
    omega
  refine ⟨(r1same_any (grpP L1 ⟨#[]⟩) (grpP L1 ⟨#[]⟩) p3 c3 p4 c4 w8 ((strP_own ho1).k0 k8) (strP_own ho2) (by omega)).mono fun e w9 ⟨he, k9⟩ => ?_⟩
  rw [decide_eq_true rfl] at he
  refine ⟨_, he, .of_k0 k9, bsp_intro (fun h => by cases h) (fun _ => ?_)⟩
  have k69 := (k67.trans k8).trans k9
  have hRa9 := hRa.k0 k69
  have hRb9 := hRb.k0 k69
  have k09 := k5.trans k69
  refine ⟨fun vs w' => ∃ i : Nat, vs = [.int .i64 (i : Int)] ∧ i ≤ k ∧ K0 w9 w', fun vs _ => (match vs with | .int _ a :: _ => k - a.toNat | _ => 0), ⟨0, rfl, by omega, .refl _ _⟩, ?_⟩
  rintro x w10 ⟨i, hv, hi, k10⟩ hL10
  simp only [List.cons.injEq, Value.int.injEq, true_and, and_true] at hv
  subst hv
  have k010 := k09.trans k10
  refine bsp_intro (fun hlt => ?_) (fun hge => ⟨rfl, k010⟩)
  have hlt : i < k := by simp at hlt; omega
  obtain ⟨o, bb, oo, ho, hp, hat⟩ := (hO.k0 k010).get (k := i) (by omega)
  have hDf := hR o (List.mem_of_getElem? ho)
  rw [Int.toNat_natCast]
  refine nn_is hp ⟨⟨by omega, by omega⟩, o.x.d.id, o.x.d.au, o.x.d.g, o.x.d.v, o.x.d.rm, o.x.d.md, o.x.p, o.x.d.ms.length, o.x.c, o.x.d.tx, hatD hat, ?_⟩
  refine ⟨(lto_any o.x w10 (hDf.row.k0 k010)).mono fun e w11 ⟨⟨q, cq, he, hmo⟩, k11⟩ => ⟨_, _, _, _, _, _, _, _, _, _, he, .of_k0 k11, ?_⟩⟩
  have k911 := k10.trans k11
  refine ⟨(rcur_any (hRa9.k0 k911) hlE (toD o.x.d).g).mono fun e w12 ⟨⟨cs1, hV1, hM1, he⟩, k12⟩ => ⟨_, _, _, _, _, _, _, _, _, _, _, he, .of_k0 k12, fun n8 W13 hW13 => ?_⟩⟩
  have k13 : K0 w12 W13 := hW13.kk rfl
  have k913 := (k911.trans k12).trans k13
  refine ⟨(rcur_any (hRb9.k0 k913) hlb' (toD o.x.d).g).mono fun e w14 ⟨⟨cs2, hV2, hM2, he⟩, k14⟩ => ⟨_, _, _, _, _, _, _, _, _, _, _, he, .of_k0 k14, fun n10 W15 hW15 => ?_⟩⟩
  have k15 : K0 w14 W15 := hW15.kk rfl
  have hE : cs1.map (fun x => x.d) = cs2.map fun x => x.d := by
    have h1 := hV1.1
    have h2 := hV2.1
    rw [acc_cont] at h1 h2
    refine hRa.uniq ((h1.trans (hperm.symm.filter _)).trans h2.symm) (fun d hd => (List.mem_filter.1 (h1.subset hd)).1) ?_ ?_
    · rw [List.pairwise_map]; exact hV1.2
    · rw [List.pairwise_map]; exact hV2.2
  have hok1 : ∀ x ∈ cs1, x.d.OK ∧ x.d.ms.length ≤ 8 := fun x hx => hRa.ok8 x.d (by
    have h1 := hV1.1
    rw [acc_cont] at h1
    exact (List.mem_filter.1 (h1.subset (List.mem_map.2 ⟨x, hx, rfl⟩))).1)
  have his : (headC cs1).isSome = (headC cs2).isSome := by rw [headC_is, headC_is, hE]
  have hXY : ((headC cs1).getD dxz).d = ((headC cs2).getD dxz).d := by rw [headC_get, headC_get, hE]
  have hXr := headX (cs := cs1) fun x hx => (hM1 x hx).row.k0 ((k13.trans k14).trans k15)
  have hYr := headX (cs := cs2) fun x hx => (hM2 x hx).row.k0 k15
  obtain ⟨oX, lX⟩ := headOK hok1
  have k015 := (((k09.trans k913).trans k14).trans k15)
  generalize (headC cs1).getD dxz = X at *
  generalize (headC cs2).getD dxz = Y at *
  refine bsp_intro (fun _ => ?_) (fun h => by exfalso; rw [his] at h; simp at h)
  refine ⟨(dequal_any X Y W15 hXr hYr oX (by rw [← hXY]; exact oX) (by omega)).mono fun e w16 ⟨he, k16⟩ => ?_⟩
  rw [show dEq X.d Y.d = true from dEq_iff.2 (by rw [hXY])] at he
  exact ⟨_, he, .of_k0 k16, bsp_intro (fun h => by cases h) (fun _ => ⟨⟨i + 1, by rw [inc64 (by omega)], hlt, (((k913.trans k14).trans k15).trans k16)⟩, by rw [inc64 (by omega)]; simp only [Int.toNat_natCast]; omega⟩)⟩

end Go.Proofs.YtkkfnlehlkiejaaGreatDoor
