/- Chapter 21: the contracts of the reference's find, Add, Drop. Lists that are not too long. -/
import Derived.Test.YtkkfnlehlkiejaaGreatDoorZ11
import Derived.Test.YtkkfnlehlkiejaaGreatDoorProg
import Derived.Test.YtkkfnlehlkiejaaGreatDoorZ02
import Derived.Test.YtkkfnlehlkiejaaGreatDoorZ03
import Derived.Test.YtkkfnlehlkiejaaGreatDoorZ06
import Derived.KernelRfl
import Derived.Test.YtkkfnlehlkiejaaGreatDoorZ08
namespace Go.Proofs.YtkkfnlehlkiejaaGreatDoor
open Go.RowKit Go.Maps

theorem SrcP.take {w : World} {p : Option Addr} {xs : List Value} (h : SrcP w p xs) (m : Nat) : SrcP w p (xs.take m) := by
  refine ⟨fun j u hj => ?_, fun u hu => h.one u (List.mem_of_mem_take hu)⟩
  rw [List.getElem?_take] at hj
  split at hj
  · exact h.cells j u hj
  · cases hj
theorem SrcP.drop {w : World} {p : Option Addr} {xs : List Value} (h : SrcP w p xs) {c i sz : Nat} (hi : xs.length ≤ c * sz) : SrcP w (slA p c i sz) (xs.drop (i * sz)) := by
  refine ⟨fun j u hj => ?_, fun u hu => h.one u (List.mem_of_mem_drop hu)⟩
  rw [List.getElem?_drop] at hj
  have hlt := (List.getElem?_eq_some_iff.1 hj).1
  have hne : ¬ c = i := fun e => by subst e; omega
  obtain ⟨b, o, hp, hc⟩ := h.cells _ u hj
  refine ⟨b, o + i * sz, ?_, by rw [Nat.add_assoc]; exact hc⟩
  unfold slA
  rw [if_neg hne, hp]
  simp [add_plain]
/-- The reference's definitions in the memory. -/
structure SR (w : World) (ds : List DX) (p : Option Addr) (c : Nat) : Prop where
  row : RowA dfC 54 w p ds
  ms : ∀ x ∈ ds, RowA auC 16 w x.p x.d.ms
  ok : ∀ x ∈ ds, dchk x.d = 0 ∧ x.d.ms.length ≤ x.c ∧ x.d.OK
  le : ds.length ≤ c
section
variable {w w' : World} {p : Option Addr} {c : Nat} {ds : List DX}
theorem SR.k0 (h : SR w ds p c) (hk : K0 w w') : SR w' ds p c := ⟨h.row.k0 hk, fun x hx => (h.ms x hx).k0 hk, h.ok, h.le⟩
theorem SR.kpM {mb c0 : Nat} {es : Array MapEntry} (h : SR w ds p c) (hk : Kp (· = mb) w w') (hm : w.heap[mb]? = some (.map es c0)) : SR w' ds p c := ⟨h.row.kpM hk hm, fun x hx => (h.ms x hx).kpM hk hm, h.ok, h.le⟩
theorem SR.src (h : SR w ds p c) : SrcP w p (ds.flatMap dfC) := src_rowA h.row dfC_length dfC_one (by decide)
theorem SR.own {base : Nat} (ho : w.ownsRow base 50 54 (.slice p ds.length c) ds.length (ds.flatMap dfC)) (hs : ∀ x ∈ ds, RowA auC 16 w x.p x.d.ms) (hk : ∀ x ∈ ds, dchk x.d = 0 ∧ x.d.ms.length ≤ x.c ∧ x.d.OK) : SR w ds p c :=
  ⟨RowA.own ho dfC_length (by decide), hs, hk, own_le ho⟩
theorem SR.nil (w : World) : SR w [] none 0 := ⟨.nil, (fun x hx => by cases hx), (fun x hx => by cases hx), Nat.le_refl _⟩
end
set_option maxHeartbeats 1000000 in
theorem xfind_any (A : List Au) (ap : Option Addr) (ac : Nat) (ds : List DX) (p : Option Addr) (c : Nat) (f : Nat → Int) (w : World) (hR : SR w ds p c) (hl : ds.length ≤ 1000000) (hf : BY f) :
    Calls Tryz.prog 70 #[.agg #[.slice ap A.length ac, .slice p ds.length c], .agg (arrI .u8 f 32 0).toArray] w fun e w' => ((e = .returned (.int .i64 (-1)) ∧ ∀ y ∈ ds, idI y.d.id ≠ idI f) ∨ ∃ (i : Nat) (y : DX), e = .returned (.int .i64 (i : Int)) ∧ ds[i]? = some y ∧ idI y.d.id = idI f) ∧ K0 w w' := by
  refine vc_xfind ap A.length ac p ds.length c f w _ (fun n1 n2 W hW => ?_)
  have kW : K0 w W := hW.kk rfl
  refine ⟨fun vs w' => ∃ i : Nat, vs = [.int .i64 (i : Int)] ∧ i ≤ ds.length ∧ (∀ j y, j < i → ds[j]? = some y → idI y.d.id ≠ idI f) ∧ K0 w w', fun vs _ => (match vs with | .int _ a :: _ => ds.length - a.toNat | _ => 0), ⟨0, rfl, by omega, (fun j y h => by omega), kW⟩, ?_⟩
  rintro a w1 ⟨i, hv, hi, hno, k1⟩ hL1
  simp only [List.cons.injEq, Value.int.injEq, true_and, and_true] at hv
  subst hv
  refine bsp_intro (fun hlt => ?_) (fun hge => ?_)
  · have hlt : i < ds.length := by simp at hlt; omega
    obtain ⟨y, b, o, hy, hp, hat⟩ := (hR.k0 k1).row.get hlt
    have oy := (hR.ok y (List.mem_of_getElem? hy)).2.2
    have hc : ∀ wx, K0 w1 wx → AtL wx b (o + i * 54) (arrI .u8 y.d.id 32 0) := fun wx k => by
      have h2 : AtL wx b (o + i * 54) (arrI .u8 y.d.id 32 0 ++ (arrI .u8 y.d.au 16 0 ++ ([.string y.d.g, .int .i64 y.d.v, .bool y.d.rm, .bool y.d.md, .slice y.p y.d.ms.length y.c, .string y.d.tx] : List Value))) := hat.k0 k
      exact h2.left
    refine nn_is hp ⟨⟨by omega, by omega⟩, y.d.id, fun W2 hW2 => by rw [Int.toNat_natCast]; exact hc W2 (hW2.kk rfl), _, idEqR oy.id hf, bsp_intro (fun h => fun W2 hW2 => ?_) (fun h => fun W2 hW2 => ?_)⟩
    · exact ⟨.inr ⟨i, y, rfl, hy, by simpa using h⟩, k1.trans (hW2.kk rfl)⟩
    · have h : idI y.d.id ≠ idI f := by simpa using h
      refine ⟨⟨i + 1, by rw [inc64 (by omega)], by omega, fun j z hj hz => ?_, k1.trans (hW2.kk rfl)⟩, by rw [inc64 (by omega)]; simp only [Int.toNat_natCast]; omega⟩
      by_cases e : j = i
      · subst e; rw [hy] at hz; cases hz; exact h
      · exact hno j z (by omega) hz
  · have hi : i = ds.length := by simp at hge; omega
    refine ⟨.inl ⟨rfl, fun y hy => ?_⟩, k1⟩
    obtain ⟨j, hj, e⟩ := List.getElem_of_mem hy
    exact hno j y (by omega) (by rw [List.getElem?_eq_getElem hj, e])
/-- What the reference's Add answers. -/
def xaddE (A : List Au) (ds : List DX) (d : Df) : Int := if dchk d ≠ 0 then dchk d else if isAu A d.g d.au = false then 20 else if ds.any (fun y => decide (idI y.d.id = idI d.id)) = true then 7 else if 4096 ≤ ds.length then 9 else 0
theorem own_n {n k : Nat} (h : (Value.slice (some (Addr.mk n 0 none)) 0 0).ownBlock = some k) : k = n := by simp [Value.ownBlock] at h; exact h.symm
theorem app_dx {w : World} {base c : Nat} {p : Option Addr} {L : List DX} {x : DX} (h : w.ownsRow base 50 54 (.slice p (0 + L.length + 1) c) (0 + L.length + 1) (L.flatMap dfC ++ dfC x)) : w.ownsRow base 50 54 (.slice p (L ++ [x]).length c) (L ++ [x]).length ((L ++ [x]).flatMap dfC) := by
  have e1 : (L ++ [x]).length = 0 + L.length + 1 := by simp
  have e2 : (L ++ [x]).flatMap dfC = L.flatMap dfC ++ dfC x := by simp
  rw [e1, e2]; exact h
set_option maxRecDepth 100000 in
set_option maxHeartbeats 8000000 in
theorem xadd_any (A : List Au) (ap : Option Addr) (ac : Nat) (L : List DX) (p : Option Addr) (c : Nat) (x : DX) (w : World) (hA : RowA atC 17 w ap A) (hb : ∀ x ∈ A, BY x.au) (hl : A.length ≤ 64) (hL : ∀ x ∈ A, ∃ es, listR x.pt = .inl es) (hsz : ∀ x ∈ A, x.pt.size ≤ 1073741824) (hS : SR w L p c) (hdl : L.length ≤ 1000000) (hR : RowA auC 16 w x.p x.d.ms) (ho : x.d.OK) :
    Calls Tryz.prog 49 #[.agg #[.slice ap A.length ac, .slice p L.length c], dfV x] w fun e w' => ((xaddE A L x.d ≠ 0 ∧ e = .returned (.tuple #[.agg #[.slice ap A.length ac, .slice p L.length c], .int .i64 (xaddE A L x.d)])) ∨
      (xaddE A L x.d = 0 ∧ ∃ (p' : Option Addr) (c' : Nat), e = .returned (.tuple #[.agg #[.slice ap A.length ac, .slice p' (L ++ [x]).length c'], .int .i64 0]) ∧
      w'.ownsRow w.heap.size 50 54 (.slice p' (L ++ [x]).length c') (L ++ [x]).length ((L ++ [x]).flatMap dfC))) ∧ K0 w w' := by
  refine vc_xadd ap A.length ac p L.length c x.d.id x.d.au x.d.g x.d.v x.d.rm x.d.md x.p x.d.ms.length x.c x.d.tx w _ (fun n1 n2 n3 W hW => ?_)
  have kW : K0 w W := hW.kk rfl
  have g1 : w.heap.size ≤ n1 := hW.fresh 2 rfl rfl
  refine ⟨(xcheck_any x W (hR.k0 kW) ho).mono fun e w1 ⟨he, k1⟩ => ⟨_, he, .of_k0 k1, bsp_intro (fun h => fun W2 hW2 => ?_) (fun h => ?_)⟩⟩
  · have h0 : dchk x.d ≠ 0 := by simpa using h
    have e0 : xaddE A L x.d = dchk x.d := by unfold xaddE; rw [if_pos h0]
    rw [e0]
    exact ⟨.inl ⟨h0, rfl⟩, hW2.k0 (kW.trans k1)⟩
  have h0 : dchk x.d = 0 := by simpa using h
  have hgs := gnE_sz (dchk_sz h0).1
  have k01 := kW.trans k1
  refine ⟨(xauth_any A ap ac p L.length c x.d.g x.d.au w1 (hA.k0 k01) hb hl hL hsz ho.au (by omega)).mono fun e w2 ⟨he, k2⟩ => ⟨_, he, .of_k0 k2, bsp_intro (fun h => fun W2 hW2 => ?_) (fun h => ?_)⟩⟩
  · have h1 : isAu A x.d.g x.d.au = false := by simpa using h
    have e0 : xaddE A L x.d = 20 := by unfold xaddE; rw [if_neg (by simpa using h0), if_pos h1]
    rw [e0]
    exact ⟨.inl ⟨by decide, rfl⟩, hW2.k0 (k01.trans k2)⟩
  have h1 : ¬ isAu A x.d.g x.d.au = false := by simpa using h
  have k02 := k01.trans k2
  refine ⟨(xfind_any A ap ac L p c x.d.id w2 (hS.k0 k02) hdl ho.id).mono fun e w3 ⟨hf, k3⟩ => ?_⟩
  have k03 := k02.trans k3
  rcases hf with ⟨he, hno⟩ | ⟨i, y, he, hy, hya⟩
  rotate_left
  · have h2 : L.any (fun y => decide (idI y.d.id = idI x.d.id)) = true := List.any_eq_true.2 ⟨y, List.mem_of_getElem? hy, by simpa using hya⟩
    have e0 : xaddE A L x.d = 7 := by unfold xaddE; rw [if_neg (by simpa using h0), if_neg h1, if_pos h2]
    rw [e0]
    exact ⟨_, he, .of_k0 k3, bsp_intro (fun _ => fun W4 hW4 => ⟨.inl ⟨by decide, rfl⟩, hW4.k0 k03⟩) (fun h => by simp at h)⟩
  have h2 : ¬ L.any (fun y => decide (idI y.d.id = idI x.d.id)) = true := fun h => by
    obtain ⟨y, hy, h⟩ := List.any_eq_true.1 h
    exact hno y hy (by simpa using h)
  refine ⟨_, he, .of_k0 k3, bsp_intro (fun h => by simp at h) (fun _ => bsp_intro (fun h => fun W4 hW4 => ?_) (fun h => fun W4 hW4 => ?_))⟩
  · have h3 : 4096 ≤ L.length := by simp at h; omega
    have e0 : xaddE A L x.d = 9 := by unfold xaddE; rw [if_neg (by simpa using h0), if_neg h1, if_neg h2, if_pos h3]
    rw [e0]
    exact ⟨.inl ⟨by decide, rfl⟩, hW4.k0 k03⟩
  have h3 : ¬ 4096 ≤ L.length := by simp at h; omega
  have e0 : xaddE A L x.d = 0 := by unfold xaddE; rw [if_neg (by simpa using h0), if_neg h1, if_neg h2, if_neg h3]
  have k4 : K0 w3 W4 := hW4.kk rfl
  have k04 := k03.trans k4
  have hb1 : W4.heap[n1]? = some (.cells #[.slice ap A.length ac, .slice p L.length c] 33 (0, 0)) := hW4.cells 2 rfl
  have hb2 : W4.heap[n2]? = some (.cells (dfC x).toArray 50 (0, 0)) := hW4.cells 1 rfl
  have hb3 := block_lt (hW4.cells 0 rfl)
  simp only at hb3
  have h12 : n2 ≠ n1 := hW4.apart 1 2 rfl rfl (by decide)
  have h13 : n3 ≠ n1 := hW4.apart 0 2 rfl rfl (by decide)
  have l1 := block_lt hb1
  have l2 := block_lt hb2
  have hSW := hS.k0 k04
  have sz := k04.size
  have hlen : (L.flatMap dfC).length = L.length * 54 := dfC_flat L
  have one : ∀ u ∈ dfC x, u.oneCell' = true := dfC_one x
  refine ⟨fun wx => K0 W4 wx, .refl _ _, p, L.length, c, fun wx k => cell_at (k.blk hb1 (fun h => h)) rfl, x.d.id, x.d.au, x.d.g, x.d.v, x.d.rm, x.d.md, x.p, x.d.ms.length, x.c, x.d.tx, fun wx k => AtL_block (k.blk hb2 (fun h => h)) rfl, ?_⟩
  refine ⟨fun n5 w1 h5 => ⟨h5.kp _, ⟨W4.heap.size, [], L.flatMap dfC, own_none h5.ge h5.block, hlen, (hSW.k0 (h5.kp _)).src, by omega, by omega, (h5.kp (fun _ => False)).size, fun p3 c3 w2 ho2 hg2 _ => ?_⟩, fun n6 w2 h6 => ⟨(h5.kp _).trans (h6.kp _), W4.heap.size, [], L.flatMap dfC, own_none h5.ge ((h6.kp (fun _ => False)).blk h5.block (fun h => h)), hlen, (hSW.k0 ((h5.kp _).trans (h6.kp _))).src, by omega, by omega, ((h5.kp (fun _ => False)).trans (h6.kp _)).size, fun p3 c3 w3 ho3 hg3 _ => ?_⟩⟩,
    fun n5 w1 h5 => ⟨h5.kp _, fun n6 w2 h6 => ⟨(h5.kp _).trans (h6.kp _), W4.heap.size, [], L.flatMap dfC, own_none (Nat.le_trans (h5.kp (fun _ => False)).size h6.ge) h6.block, hlen, (hSW.k0 ((h5.kp _).trans (h6.kp _))).src, by omega, by omega, ((h5.kp (fun _ => False)).trans (h6.kp _)).size, fun p3 c3 w3 ho3 hg3 _ => ?_⟩⟩⟩
  rw [List.nil_append] at ho2
  have k2 : K0 W4 w2 := (h5.kp _).fresh (kp_grown hg2) (fun j hj e => by have := own_n e; have := h5.ge; omega)
  refine ⟨k2, fun n6 w3 h6 => ⟨k2.trans (h6.kp _), W4.heap.size, _, _, owns_kp ho2 (h6.kp (fun _ => False)) (fun _ _ h => h), rfl, src_block h6.block one, by omega, by omega, (k2.trans (h6.kp (fun _ => False))).size, fun p7 c7 w4 ho4 hg4 _ => ?_⟩⟩
  have k4 : K0 W4 w4 := (k2.trans (h6.kp _)).fresh (kp_grown hg4) (fun j hj e => by have := own_ge ho2 e; omega)
  have ho4 : w4.ownsRow W4.heap.size 50 54 (.slice p7 (0 + L.length + 1) c7) (0 + L.length + 1) (L.flatMap dfC ++ dfC x) := ho4
  clear ho2 hg2 h6 hg4 h5 k2
  rotate_left
  rw [List.nil_append] at ho3
  have k3 : K0 W4 w3 := ((h5.kp _).trans (h6.kp _)).fresh (kp_grown hg3) (fun j hj e => by have := own_n e; have := h5.ge; omega)
  refine ⟨k3, W4.heap.size, _, _, ho3, rfl, src_block ((kp_grown hg3).blk h6.block (fun e => by have := own_n e; have := h6.ge; have := h5.size; omega)) one, by omega, by omega, k3.size, fun p7 c7 w4 ho4 hg4 _ => ?_⟩
  have k4 : K0 W4 w4 := k3.fresh (kp_grown hg4) (fun j hj e => by have := own_ge ho3 e; omega)
  have ho4 : w4.ownsRow W4.heap.size 50 54 (.slice p7 (0 + L.length + 1) c7) (0 + L.length + 1) (L.flatMap dfC ++ dfC x) := ho4
  clear ho3 hg3 h6 hg4 h5 k3
  rotate_left
  rw [List.nil_append] at ho3
  have k3 : K0 W4 w3 := ((h5.kp _).trans (h6.kp _)).fresh (kp_grown hg3) (fun j hj e => by have := own_n e; have := h6.ge; have := h5.size; have := h5.ge; omega)
  refine ⟨k3, W4.heap.size, _, _, ho3, rfl, src_block ((kp_grown hg3).blk ((h6.kp (fun _ => False)).blk h5.block (fun h => h)) (fun e => by have := own_n e; have := h6.ge; have := h5.size; omega)) one, by omega, by omega, k3.size, fun p7 c7 w4 ho4 hg4 _ => ?_⟩
  have k4 : K0 W4 w4 := k3.fresh (kp_grown hg4) (fun j hj e => by have := own_ge ho3 e; omega)
  have ho4 : w4.ownsRow W4.heap.size 50 54 (.slice p7 (0 + L.length + 1) c7) (0 + L.length + 1) (L.flatMap dfC ++ dfC x) := ho4
  clear ho3 hg3 h6 hg4 h5 k3
  rotate_left
  all_goals
    have hc4 := k4.blk hb1 (fun h => h)
    have ho4' := app_dx ho4
    refine ⟨cell_wr hc4 (by show 0 + 1 < 2; omega), fun w5 h5 => ⟨⟨by rw [h5.size]; exact k4.size, fun y hy hlt => ?_⟩, ap, A.length, ac, p7, (L ++ [x]).length, c7, AtL_block (h5.block hc4) (by rw [show (L ++ [x]).length = 0 + L.length + 1 by simp]; rfl), fun W6 hW6 => ⟨.inr ⟨e0, p7, c7, rfl, ?_⟩, ?_⟩⟩⟩
    · have hy : y = n3 ∨ y = n2 := by simpa using hy
      rw [h5.kp.block y (Nat.lt_of_lt_of_le hlt k4.size) (fun e => by omega), k4.block y hlt (fun h => h)]
    · refine own_base (own_loc (owns_kp ho4' h5.kp (fun k hk e => ?_)) hW6 (fun b hb e => ?_)) sz
      · have := own_ge ho4' hk; omega
      · have h1 := own_ge ho4' e
        simp at hb
        rcases hb with rfl | rfl
        · simp only at h1; omega
        · simp only at h1; omega
    · exact hW6.k0 (put_k0 (k04.trans k4) h5 g1)
theorem erase_flat21 (L : List DX) (i : Nat) : (L.flatMap dfC).take (i * 54) ++ (L.flatMap dfC).drop ((i + 1) * 54) = (L.eraseIdx i).flatMap dfC := erase_flat dfC 54 L i dfC_length
set_option maxRecDepth 100000 in
set_option maxHeartbeats 4000000 in
theorem xdrop_any (A : List Au) (ap : Option Addr) (ac : Nat) (L : List DX) (p : Option Addr) (c : Nat) (f : Nat → Int) (w : World) (hS : SR w L p c) (hl : L.length ≤ 1000000) (hf : BY f) :
    Calls Tryz.prog 48 #[.agg #[.slice ap A.length ac, .slice p L.length c], .agg (arrI .u8 f 32 0).toArray] w fun e w' => ((e = .returned (.tuple #[.agg #[.slice ap A.length ac, .slice p L.length c], .int .i64 8]) ∧ ∀ y ∈ L, idI y.d.id ≠ idI f) ∨
      ∃ (i : Nat) (y : DX) (p' : Option Addr) (c' : Nat), e = .returned (.tuple #[.agg #[.slice ap A.length ac, .slice p' (L.eraseIdx i).length c'], .int .i64 0]) ∧ L[i]? = some y ∧ idI y.d.id = idI f ∧ w'.ownsRow w.heap.size 50 54 (.slice p' (L.eraseIdx i).length c') (L.eraseIdx i).length ((L.eraseIdx i).flatMap dfC)) ∧ K0 w w' := by
  refine vc_xdrop ap A.length ac p L.length c f w _ (fun n1 n2 n3 W hW => ?_)
  have kW : K0 w W := hW.kk rfl
  have g1 : w.heap.size ≤ n1 := hW.fresh 2 rfl rfl
  refine ⟨(xfind_any A ap ac L p c f W (hS.k0 kW) hl hf).mono fun e w1 ⟨h, k1⟩ => ?_⟩
  rcases h with ⟨he, hno⟩ | ⟨i, y, he, hy, hn⟩
  · refine ⟨_, he, .of_k0 k1, bsp_intro (fun _ => fun W2 hW2 => ?_) (fun h => by simp at h)⟩
    exact ⟨.inl ⟨rfl, hno⟩, hW2.k0 (kW.trans k1)⟩
  · refine ⟨_, he, .of_k0 k1, bsp_intro (fun h => by simp at h; omega) (fun _ => fun W2 hW2 => ?_)⟩
    have hi : i < L.length := (List.getElem?_eq_some_iff.1 hy).1
    have k2 : K0 w1 W2 := hW2.kk rfl
    have k02 := (kW.trans k1).trans k2
    have hb1 : W2.heap[n1]? = some (.cells #[.slice ap A.length ac, .slice p L.length c] 33 (0, 0)) := hW2.cells 2 rfl
    have l1 := block_lt hb1
    have l2 := block_lt (hW2.cells 1 rfl)
    have l3 := block_lt (hW2.cells 0 rfl)
    simp only at l2 l3
    have h12 : n2 ≠ n1 := hW2.apart 1 2 rfl rfl (by decide)
    have h13 : n3 ≠ n1 := hW2.apart 0 2 rfl rfl (by decide)
    have hR2 := hS.k0 k02
    have hlen : (L.flatMap dfC).length = L.length * 54 := dfC_flat L
    rw [inc64 (by omega), Int.toNat_natCast, Int.toNat_natCast]
    have hle := hS.le
    refine ⟨fun wx => K0 W2 wx, .refl _ _, p, L.length, c, fun wx k => cell_at (k.blk hb1 (fun h => h)) rfl, ⟨by omega, by omega⟩, p, L.length, c, fun wx k => cell_at (k.blk hb1 (fun h => h)) rfl, ⟨by omega, by omega⟩, fun n5 w3 h3 => ⟨h3.kp _, W2.heap.size, [], (L.flatMap dfC).take (i * 54), own_none h3.ge h3.block, ?_, ((hR2.k0 (h3.kp _)).src).take _, by omega, by omega, (h3.kp (fun _ => False)).size, fun p4 c4 w4 ho4 hg4 _ => ?_⟩⟩
    · rw [List.length_take, hlen]; exact Nat.min_eq_left (Nat.mul_le_mul_right _ (by omega))
    rw [List.nil_append] at ho4
    have k4 : K0 W2 w4 := (h3.kp _).fresh (kp_grown hg4) (fun j hj e => by have := own_n e; have := h3.ge; omega)
    refine ⟨k4, W2.heap.size, _, (L.flatMap dfC).drop ((i + 1) * 54), ho4, ?_, ((hR2.k0 k4).src).drop (by rw [hlen]; omega), by omega, by omega, k4.size, fun p5 c5 w5 ho5 hg5 _ => ?_⟩
    · rw [List.length_drop, hlen, Nat.sub_mul]
    have k5 : K0 W2 w5 := k4.fresh (kp_grown hg5) (fun j hj e => by have := own_ge ho4 e; omega)
    have em : 0 + i + (L.length - (i + 1)) = (L.eraseIdx i).length := by rw [List.length_eraseIdx_of_lt hi]; omega
    rw [erase_flat21 L i, em] at ho5
    rw [em]
    have hc5 := k5.blk hb1 (fun h => h)
    refine ⟨cell_wr hc5 (by show 0 + 1 < 2; omega), fun w6 h6 => ⟨⟨by rw [h6.size]; exact k5.size, fun z hz hlt => ?_⟩, ap, A.length, ac, p5, (L.eraseIdx i).length, c5, AtL_block (h6.block hc5) rfl, fun W7 hW7 => ⟨.inr ⟨i, y, p5, c5, rfl, hy, hn, ?_⟩, ?_⟩⟩⟩
    · have hz : z = n3 ∨ z = n2 := by simpa using hz
      rw [h6.kp.block z (Nat.lt_of_lt_of_le hlt k5.size) (fun e => by omega), k5.block z hlt (fun h => h)]
    · refine own_base (own_loc (owns_kp ho5 h6.kp (fun k hk e => ?_)) hW7 (fun b hb e => ?_)) k02.size
      · have := own_ge ho5 hk; omega
      · have h1 := own_ge ho5 e
        simp at hb
        rcases hb with rfl | rfl
        · simp only at h1; omega
        · simp only at h1; omega
    · exact hW7.k0 (put_k0 (k02.trans k5) h6 g1)

end Go.Proofs.YtkkfnlehlkiejaaGreatDoor

/- The formulas of functions by the symbolic evaluator, and that each gives the call's contract. Written by a program (gen.py). No condition. -/
namespace Go.Proofs.YtkkfnlehlkiejaaGreatDoor
set_option maxRecDepth 100000
set_option linter.unusedVariables false

def VC_lplay (ap : Option Addr) (an : Nat) (ac : Nat) (op : Option Addr) (on : Nat) (oc : Nat) (w : World) (R : Ending → World → Prop) : Prop :=
 ∀ (n n_1 : Nat) (W : World),
 Loc w.heap.size
 [Blk.mk n_1 33 [Value.slice none 0 0, Value.slice none 0 0] 2,
 Blk.mk n 42 [Value.slice ap an ac, Value.slice op on oc] 2]
 w W →
 CallsS Tryz.prog 12 #[Value.slice ap an ac] W fun (e : Ending) (w' : World) =>
 ∃ (p : Option Addr),
 ∃ (n_2 : Nat),
 ∃ (c : Nat),
 ∃ (p_1 : Option Addr),
 ∃ (n_3 : Nat),
 ∃ (c_1 : Nat),
 e = Ending.returned (Value.tuple #[Value.slice p n_2 c, Value.slice p_1 n_3 c_1]) ∧
 KeptL [n_1, n] W w' ∧
 CallsS Tryz.prog 13 #[Value.slice p n_2 c] w' fun (e : Ending) (w'_1 : World) =>
 ∃ (x : Option Addr),
 ∃ (x_1 : Int),
 ∃ (x_2 : Int),
 e =
 Ending.returned
 (Value.tuple #[Value.pointer x, Value.int IntKind.i64 x_1, Value.int IntKind.i64 x_2]) ∧
 KeptL [n_1, n] w' w'_1 ∧
 CallsS Tryz.prog 14 #[Value.slice p_1 n_3 c_1] w'_1 fun (e : Ending) (w' : World) =>
 ∃ (p : Option Addr),
 ∃ (n_4 : Nat),
 ∃ (c : Nat),
 ∃ (p_2 : Option Addr),
 ∃ (n_5 : Nat),
 ∃ (c_2 : Nat),
 ∃ (x_3 : Int),
 ∃ (x_4 : Int),
 e =
 Ending.returned
 (Value.tuple
 #[Value.agg #[Value.slice p n_4 c, Value.slice p_2 n_5 c_2], Value.int IntKind.i64 x_3,
 Value.int IntKind.i64 x_4]) ∧
 KeptL [n_1, n] w'_1 w' ∧
 bsp (x_1 != x_3 || x_2 != x_4 || !x.isNone == (x_4 != 0))
 (∀ (W : World),
 Loc w.heap.size
 [Blk.mk n_1 33 [Value.slice p n_4 c, Value.slice p_2 n_5 c_2] (wrM (wrM 0)),
 Blk.mk n 42 [Value.slice ap an ac, Value.slice op on oc] 0]
 w' W →
 R
 (Ending.returned
 (Value.tuple
 #[Value.pointer none, Value.agg #[Value.slice p n_4 c, Value.slice p_2 n_5 c_2],
 Value.bool false]))
 W)
 (∀ (W : World),
 Loc w.heap.size
 [Blk.mk n_1 33 [Value.slice p n_4 c, Value.slice p_2 n_5 c_2] (wrM 0),
 Blk.mk n 42 [Value.slice ap an ac, Value.slice op on oc] 0]
 w' W →
 ∃ (I : List Value → World → Prop),
 ∃ (m : List Value → World → Nat),
 I [Value.pointer x, Value.int IntKind.i64 0] W ∧
 ∀ (x : Option Addr) (x_5 : Int) (w' : World),
 I [Value.pointer x, Value.int IntKind.i64 x_5] w' →
 Loc w.heap.size [Blk.mk n 42 [Value.slice ap an ac, Value.slice op on oc] 0] w' w' →
 bsp (decide (x_5 < (↑on : Int)) && decide (x_5 < 30) && !x.isNone)
 (nn true op fun (b o : Nat) =>
 (0 ≤ x_5 ∧ x_5 < (↑on : Int)) ∧
 ∃ (f : Nat → Int),
 ∃ (f_1 : Nat → Int),
 ∃ (x_6 : ByteArray),
 ∃ (x_7 : Int),
 ∃ (x_8 : Bool),
 ∃ (x_9 : Bool),
 ∃ (p : Option Addr),
 ∃ (n_6 : Nat),
 ∃ (c : Nat),
 ∃ (x_10 : ByteArray),
 AtL w' b (o + x_5.toNat * 55 + 1)
 (arrI IntKind.u8 f 32 0 ++ (arrI IntKind.u8 f_1 16 0 ++ [Value.string x_6, Value.int IntKind.i64 x_7, Value.bool x_8,
 Value.bool x_9, Value.slice p n_6 c, Value.string x_10])) ∧
 CallsS Tryz.prog 23
 #[Value.agg
 (arrI IntKind.u8 f 32 0 ++ (arrI IntKind.u8 f_1 16 0 ++ [Value.string x_6, Value.int IntKind.i64 x_7, Value.bool x_8,
 Value.bool x_9, Value.slice p n_6 c, Value.string x_10])).toArray]
 w' fun (e : Ending) (w'_2 : World) =>
 ∃ (f : Nat → Int),
 ∃ (f_2 : Nat → Int),
 ∃ (x_11 : ByteArray),
 ∃ (x_12 : Int),
 ∃ (x_13 : Bool),
 ∃ (x_14 : Bool),
 ∃ (p : Option Addr),
 ∃ (n_7 : Nat),
 ∃ (c : Nat),
 ∃ (x_15 : ByteArray),
 e =
 Ending.returned
 (Value.agg
 (arrI IntKind.u8 f 32 0 ++ (arrI IntKind.u8 f_2 16 0 ++ [Value.string x_11,
 Value.int IntKind.i64 x_12, Value.bool x_13,
 Value.bool x_14, Value.slice p n_7 c,
 Value.string x_15])).toArray) ∧
 KeptL [n] w' w'_2 ∧
 ∀ (n_8 : Nat),
 nn true op fun (b o : Nat) =>
 (0 ≤ x_5 ∧ x_5 < (↑on : Int)) ∧
 ∃ (x_16 : Bool),
 (∀ (W : World),
 Loc w.heap.size
 [Blk.mk n 42
 [Value.slice ap an ac, Value.slice op on oc]
 0,
 Blk.mk n_8 56
 (arrI IntKind.u8 f 32 0 ++ (arrI IntKind.u8 f_2 16 0 ++ [Value.string x_11,
 Value.int IntKind.i64 x_12, Value.bool x_13,
 Value.bool x_14, Value.slice p n_7 c,
 Value.string x_15]))
 (wrM 2)]
 w'_2 W →
 W.cell? (Addr.mk b (o + x_5.toNat * 55) none) =
 some (Value.bool x_16)) ∧
 bsp x_16
 (∃ (p_3 : Option Addr),
 ∃ (n_9 : Nat),
 ∃ (c_3 : Nat),
 ∃ (p_4 : Option Addr),
 ∃ (n_10 : Nat),
 ∃ (c_4 : Nat),
 (∀ (W : World),
 Loc w.heap.size
 [Blk.mk n 42
 [Value.slice ap an ac,
 Value.slice op on oc]
 0,
 Blk.mk n_8 56
 (arrI IntKind.u8 f 32 0 ++ (arrI IntKind.u8 f_2 16 0 ++ [Value.string x_11,
 Value.int IntKind.i64 x_12,
 Value.bool x_13, Value.bool x_14,
 Value.slice p n_7 c,
 Value.string x_15]))
 (wrM 2)]
 w'_2 W →
 AtL W n_1 0
 [Value.slice p_3 n_9 c_3,
 Value.slice p_4 n_10 c_4]) ∧
 ∀ (W : World),
 Loc w.heap.size
 [Blk.mk n 42
 [Value.slice ap an ac,
 Value.slice op on oc]
 0,
 Blk.mk n_8 56
 (arrI IntKind.u8 f 32 0 ++ (arrI IntKind.u8 f_2 16 0 ++ [Value.string x_11,
 Value.int IntKind.i64 x_12,
 Value.bool x_13, Value.bool x_14,
 Value.slice p n_7 c,
 Value.string x_15]))
 (wrM 2)]
 w'_2 W →
 CallsS Tryz.prog 48
 #[Value.agg
 #[Value.slice p_3 n_9 c_3,
 Value.slice p_4 n_10 c_4],
 Value.agg
 (arrI IntKind.u8 f 32 0).toArray]
 W fun (e : Ending) (w'_3 : World) =>
 ∃ (p_5 : Option Addr),
 ∃ (n_11 : Nat),
 ∃ (c_5 : Nat),
 ∃ (p_6 : Option Addr),
 ∃ (n_12 : Nat),
 ∃ (c_6 : Nat),
 ∃ (x_17 : Int),
 e =
 Ending.returned
 (Value.tuple
 #[Value.agg
 #[Value.slice p_5 n_11 c_5,
 Value.slice p_6 n_12 c_6],
 Value.int IntKind.i64
 x_17]) ∧
 KeptL [n, n_8] W w'_3 ∧
 WrL w'_3 n_1 0 2 ∧
 ∀ (w1 : World),
 PutB w'_3 n_1 0
 [Value.slice p_5 n_11 c_5,
 Value.slice p_6 n_12 c_6]
 w1 →
 KeptL [n, n_8] w'_3 w1 ∧
 CallsS Tryz.prog 43
 #[Value.pointer x,
 Value.agg
 (arrI IntKind.u8 f 32 0).toArray]
 w1
 fun (e : Ending)
 (w'_4 : World) =>
 ∃ (x_18 : Int),
 e =
 Ending.returned
 (Value.int IntKind.i64
 x_18) ∧
 KeptL [n, n_8] w1 w'_4 ∧
 bsp (x_18 != x_17)
 (∃ (p_7 :
 Option Addr),
 ∃ (n_13 : Nat),
 ∃ (c_7 : Nat),
 ∃ (p_8 :
 Option Addr),
 ∃ (n_14 : Nat),
 ∃ (c_8 : Nat),
 (∀ (W : World),
 Loc
 w.heap.size
 [Blk.mk n 42
 [Value.slice
 ap an
 ac,
 Value.slice
 op on
 oc]
 0,
 Blk.mk n_8
 56
 (arrI IntKind.u8 f 32 0 ++ (arrI IntKind.u8 f_2 16 0 ++ [Value.string
 x_11,
 Value.int
 IntKind.i64
 x_12,
 Value.bool
 x_13,
 Value.bool
 x_14,
 Value.slice
 p n_7 c,
 Value.string
 x_15]))
 0]
 w'_4 W →
 AtL W n_1 0
 [Value.slice
 p_7 n_13
 c_7,
 Value.slice
 p_8 n_14
 c_8]) ∧
 ∀ (W : World),
 Loc
 w.heap.size
 [Blk.mk n 42
 [Value.slice
 ap an
 ac,
 Value.slice
 op on
 oc]
 0,
 Blk.mk n_8
 56
 (arrI IntKind.u8 f 32 0 ++ (arrI IntKind.u8 f_2 16 0 ++ [Value.string
 x_11,
 Value.int
 IntKind.i64
 x_12,
 Value.bool
 x_13,
 Value.bool
 x_14,
 Value.slice
 p n_7 c,
 Value.string
 x_15]))
 0]
 w'_4 W →
 WrL W n_1 0
 2 ∧
 ∀
 (w1 :
 World),
 PutB W n_1
 0
 [Value.slice
 p_7
 n_13
 c_7,
 Value.slice
 p_8
 n_14
 c_8]
 w1 →
 KeptL
 [n, n_8]
 W w1 ∧
 ∃ (p :
 Option
 Addr),
 ∃ (n :
 Nat),
 ∃ (c :
 Nat),
 ∃ (p_9
 :
 Option
 Addr),
 ∃
 (n_15
 :
 Nat),
 ∃
 (c_9
 :
 Nat),
 AtL
 w1
 n_1
 0
 [Value.slice
 p
 n
 c,
 Value.slice
 p_9
 n_15
 c_9] ∧
 R
 (Ending.returned
 (Value.tuple
 #[Value.pointer
 x,
 Value.agg
 #[Value.slice
 p
 n
 c,
 Value.slice
 p_9
 n_15
 c_9],
 Value.bool
 false]))
 w1)
 (I
 [Value.pointer x,
 Value.int
 IntKind.i64
 (IntKind.i64.wrap
 (x_5 + 1))]
 w'_4 ∧
 m
 [Value.pointer x,
 Value.int
 IntKind.i64
 (IntKind.i64.wrap
 (x_5 + 1))]
 w'_4 <
 m
 [Value.pointer x,
 Value.int
 IntKind.i64 x_5]
 w'))
 (∀ (W : World),
 Loc w.heap.size
 [Blk.mk n 42
 [Value.slice ap an ac, Value.slice op on oc]
 0,
 Blk.mk n_8 56
 (arrI IntKind.u8 f 32 0 ++ (arrI IntKind.u8 f_2 16 0 ++ [Value.string x_11,
 Value.int IntKind.i64 x_12, Value.bool x_13,
 Value.bool x_14, Value.slice p n_7 c,
 Value.string x_15]))
 (wrM 2)]
 w'_2 W →
 ∃ (S : World → Prop),
 S W ∧
 ∃ (p_3 : Option Addr),
 ∃ (n_9 : Nat),
 ∃ (c_3 : Nat),
 ∃ (p_4 : Option Addr),
 ∃ (n_10 : Nat),
 ∃ (c_4 : Nat),
 (∀ (w' : World),
 S w' →
 AtL w' n_1 0
 [Value.slice p_3 n_9 c_3,
 Value.slice p_4 n_10 c_4]) ∧
 ∃ (f_3 : Nat → Int),
 ∃ (f_4 : Nat → Int),
 ∃ (x_17 : ByteArray),
 ∃ (x_18 : Int),
 ∃ (x_19 : Bool),
 ∃ (x_20 : Bool),
 ∃ (p_5 : Option Addr),
 ∃ (n_11 : Nat),
 ∃ (c_5 : Nat),
 ∃ (x_21 : ByteArray),
 (∀ (w' : World),
 S w' →
 AtL w' n_8 0
 (arrI IntKind.u8 f_3 32 0 ++ (arrI IntKind.u8 f_4 16 0 ++ [Value.string x_17,
 Value.int IntKind.i64
 x_18,
 Value.bool x_19,
 Value.bool x_20,
 Value.slice p_5 n_11
 c_5,
 Value.string x_21]))) ∧
 CallsS Tryz.prog 26
 #[Value.agg
 (arrI IntKind.u8 f_3 32 0 ++ (arrI IntKind.u8 f_4 16 0 ++ [Value.string x_17,
 Value.int IntKind.i64
 x_18,
 Value.bool x_19,
 Value.bool x_20,
 Value.slice p_5 n_11
 c_5,
 Value.string x_21])).toArray]
 W
 fun (e : Ending)
 (w'_3 : World) =>
 ∃ (f_5 : Nat → Int),
 ∃ (f_6 : Nat → Int),
 ∃ (x_22 : ByteArray),
 ∃ (x_23 : Int),
 ∃ (x_24 : Bool),
 ∃ (x_25 : Bool),
 ∃ (p_6 :
 Option Addr),
 ∃ (n_12 : Nat),
 ∃ (c_6 : Nat),
 ∃ (x_26 :
 ByteArray),
 e =
 Ending.returned
 (Value.agg
 (arrI IntKind.u8 f_5 32 0 ++ (arrI IntKind.u8 f_6 16 0 ++ [Value.string
 x_22,
 Value.int
 IntKind.i64
 x_23,
 Value.bool
 x_24,
 Value.bool
 x_25,
 Value.slice
 p_6 n_12
 c_6,
 Value.string
 x_26])).toArray) ∧
 S w'_3 ∧
 CallsS
 Tryz.prog 49
 #[Value.agg
 #[Value.slice
 p_3 n_9
 c_3,
 Value.slice
 p_4 n_10
 c_4],
 Value.agg
 (arrI IntKind.u8 f_5 32 0 ++ (arrI IntKind.u8 f_6 16 0 ++ [Value.string
 x_22,
 Value.int
 IntKind.i64
 x_23,
 Value.bool
 x_24,
 Value.bool
 x_25,
 Value.slice
 p_6 n_12
 c_6,
 Value.string
 x_26])).toArray]
 w'_3
 fun
 (e : Ending)
 (w'_4 :
 World) =>
 ∃ (p_7 :
 Option Addr),
 ∃ (n_13 :
 Nat),
 ∃ (c_7 :
 Nat),
 ∃ (p_8 :
 Option
 Addr),
 ∃ (n_14 :
 Nat),
 ∃ (c_8 :
 Nat),
 ∃ (x_27
 : Int),
 e =
 Ending.returned
 (Value.tuple
 #[Value.agg
 #[Value.slice
 p_7
 n_13
 c_7,
 Value.slice
 p_8
 n_14
 c_8],
 Value.int
 IntKind.i64
 x_27]) ∧
 WrL
 w'_4
 n_1
 0
 2 ∧
 ∀
 (w1 :
 World),
 PutB
 w'_4
 n_1
 0
 [Value.slice
 p_7
 n_13
 c_7,
 Value.slice
 p_8
 n_14
 c_8]
 w1 →
 KeptL
 [n,
 n_8]
 W
 w1 ∧
 CallsS
 Tryz.prog
 22
 #[Value.pointer
 x,
 Value.agg
 (arrI IntKind.u8 f 32 0 ++ (arrI IntKind.u8 f_2 16 0 ++ [Value.string
 x_11,
 Value.int
 IntKind.i64
 x_12,
 Value.bool
 x_13,
 Value.bool
 x_14,
 Value.slice
 p
 n_7
 c,
 Value.string
 x_15])).toArray]
 w1
 fun
 (e :
 Ending)
 (w'_5 :
 World) =>
 ∃
 (x_28
 :
 Int),
 e =
 Ending.returned
 (Value.int
 IntKind.i64
 x_28) ∧
 KeptL
 [n,
 n_8]
 w1
 w'_5 ∧
 bsp
 (x_28 !=
 x_27)
 (∃
 (p_9
 :
 Option
 Addr),
 ∃
 (n_15
 :
 Nat),
 ∃
 (c_9
 :
 Nat),
 ∃
 (p_10
 :
 Option
 Addr),
 ∃
 (n_16
 :
 Nat),
 ∃
 (c_10
 :
 Nat),
 (∀
 (W :
 World),
 Loc
 w.heap.size
 [Blk.mk
 n
 42
 [Value.slice
 ap
 an
 ac,
 Value.slice
 op
 on
 oc]
 0,
 Blk.mk
 n_8
 56
 (arrI IntKind.u8 f 32 0 ++ (arrI IntKind.u8 f_2 16 0 ++ [Value.string
 x_11,
 Value.int
 IntKind.i64
 x_12,
 Value.bool
 x_13,
 Value.bool
 x_14,
 Value.slice
 p
 n_7
 c,
 Value.string
 x_15]))
 0]
 w'_5
 W →
 AtL
 W
 n_1
 0
 [Value.slice
 p_9
 n_15
 c_9,
 Value.slice
 p_10
 n_16
 c_10]) ∧
 ∀
 (W :
 World),
 Loc
 w.heap.size
 [Blk.mk
 n
 42
 [Value.slice
 ap
 an
 ac,
 Value.slice
 op
 on
 oc]
 0,
 Blk.mk
 n_8
 56
 (arrI IntKind.u8 f 32 0 ++ (arrI IntKind.u8 f_2 16 0 ++ [Value.string
 x_11,
 Value.int
 IntKind.i64
 x_12,
 Value.bool
 x_13,
 Value.bool
 x_14,
 Value.slice
 p
 n_7
 c,
 Value.string
 x_15]))
 0]
 w'_5
 W →
 WrL
 W
 n_1
 0
 2 ∧
 ∀
 (w1 :
 World),
 PutB
 W
 n_1
 0
 [Value.slice
 p_9
 n_15
 c_9,
 Value.slice
 p_10
 n_16
 c_10]
 w1 →
 KeptL
 [n,
 n_8]
 W
 w1 ∧
 ∃
 (p
 :
 Option
 Addr),
 ∃
 (n
 :
 Nat),
 ∃
 (c
 :
 Nat),
 ∃
 (p_11
 :
 Option
 Addr),
 ∃
 (n_17
 :
 Nat),
 ∃
 (c_11
 :
 Nat),
 AtL
 w1
 n_1
 0
 [Value.slice
 p
 n
 c,
 Value.slice
 p_11
 n_17
 c_11] ∧
 R
 (Ending.returned
 (Value.tuple
 #[Value.pointer
 x,
 Value.agg
 #[Value.slice
 p
 n
 c,
 Value.slice
 p_11
 n_17
 c_11],
 Value.bool
 false]))
 w1)
 (I
 [Value.pointer
 x,
 Value.int
 IntKind.i64
 (IntKind.i64.wrap
 (x_5 +
 1))]
 w'_5 ∧
 m
 [Value.pointer
 x,
 Value.int
 IntKind.i64
 (IntKind.i64.wrap
 (x_5 +
 1))]
 w'_5 <
 m
 [Value.pointer
 x,
 Value.int
 IntKind.i64
 x_5]
 w')))
 (∃ (p : Option Addr),
 ∃ (n_6 : Nat),
 ∃ (c : Nat),
 ∃ (p_3 : Option Addr),
 ∃ (n_7 : Nat),
 ∃ (c_3 : Nat),
 (∀ (W : World),
 Loc w.heap.size
 [Blk.mk n 42 [Value.slice ap an ac, Value.slice op on oc] 0] w' W →
 AtL W n_1 0 [Value.slice p n_6 c, Value.slice p_3 n_7 c_3]) ∧
 ∀ (W : World),
 Loc w.heap.size
 [Blk.mk n 42 [Value.slice ap an ac, Value.slice op on oc] 0] w' W →
 WrL W n_1 0 2 ∧
 ∀ (w1 : World),
 PutB W n_1 0 [Value.slice p n_6 c, Value.slice p_3 n_7 c_3] w1 →
 KeptL [n] W w1 ∧
 ∃ (p : Option Addr),
 ∃ (n : Nat),
 ∃ (c : Nat),
 ∃ (p_4 : Option Addr),
 ∃ (n_8 : Nat),
 ∃ (c_4 : Nat),
 AtL w1 n_1 0 [Value.slice p n c, Value.slice p_4 n_8 c_4] ∧
 R
 (Ending.returned
 (Value.tuple
 #[Value.pointer x,
 Value.agg #[Value.slice p n c, Value.slice p_4 n_8 c_4],
 Value.bool true]))
 w1))
theorem vc_lplay (ap : Option Addr) (an : Nat) (ac : Nat) (op : Option Addr) (on : Nat) (oc : Nat) (w : World) (R : Ending → World → Prop) (h : VC_lplay ap an ac op on oc w R) : Calls Tryz.prog 18 ([Value.agg
    #[Value.slice ap an ac, Value.slice op on oc]] : List Value).toArray w R := by
  have e : execR2 { P := Tryz.prog, loops := [(7, [(2, Ck.ptr), (11, Ck.int IntKind.i64)])], pur := pur1, tails := [(5, 2), (14, 3), (15, 2), (17, 3), (18, 3)], joins := [], boxes := [] } Tryz.f18.results.toList R (Tryz.f18.body.getD .skip) (initF [Value.agg
    #[Value.slice ap an ac,
      Value.slice op on
        oc]] (Tryz.f18.ntmps - ([Value.agg
    #[Value.slice ap an ac,
      Value.slice op on oc]] : List Value).length)) w = VC_lplay ap an ac op on oc w R := by kernel_rfl
  have hb : Tryz.f18.body = some (Tryz.f18.body.getD .skip) := by kernel_rfl
  exact calls_of_exec2' (P := Tryz.prog) (fn := Tryz.f18) (c := Tryz.f18.body.getD .skip) (args := [Value.agg
    #[Value.slice ap an ac, Value.slice op on oc]]) (w := w) (R := R) pur1_ok Tryz.func18 hb e h

def VC_lrplays (ap : Option Addr) (an : Nat) (ac : Nat) (op : Option Addr) (on : Nat) (oc : Nat) (w : World) (R : Ending → World → Prop) : Prop :=
 ∀ (n : Nat) (W : World),
 Loc w.heap.size [Blk.mk n 42 [Value.slice ap an ac, Value.slice op on oc] 2] w W →
 CallsS Tryz.prog 18 #[Value.agg #[Value.slice ap an ac, Value.slice op on oc]] W fun (e : Ending) (w' : World) =>
 ∃ (x : Option Addr),
 ∃ (p : Option Addr),
 ∃ (n_1 : Nat),
 ∃ (c : Nat),
 ∃ (p_1 : Option Addr),
 ∃ (n_2 : Nat),
 ∃ (c_1 : Nat),
 ∃ (x_1 : Bool),
 e =
 Ending.returned
 (Value.tuple
 #[Value.pointer x, Value.agg #[Value.slice p n_1 c, Value.slice p_1 n_2 c_1], Value.bool x_1]) ∧
 KeptL [n] W w' ∧
 ∀ (n_3 : Nat),
 bsp (!x_1 || x.isNone)
 (∀ (W : World),
 Loc w.heap.size
 [Blk.mk n_3 33 [Value.slice p n_1 c, Value.slice p_1 n_2 c_1] (wrM 2),
 Blk.mk n 42 [Value.slice ap an ac, Value.slice op on oc] 0]
 w' W →
 bsp x_1
 (CallsS Tryz.prog 15 #[] W fun (e : Ending) (w' : World) =>
 ∃ (x : Bool),
 e = Ending.returned (Value.bool x) ∧
 KeptL [n_3, n] W w' ∧ R (Ending.returned (Value.bool (true && x))) w')
 (KeptL [n_3, n] W W ∧ R (Ending.returned (Value.bool false)) W))
 (∀ (W : World),
 Loc w.heap.size
 [Blk.mk n_3 33 [Value.slice p n_1 c, Value.slice p_1 n_2 c_1] (wrM 2),
 Blk.mk n 42 [Value.slice ap an ac, Value.slice op on oc] 0]
 w' W →
 ∃ (S : World → Prop),
 S W ∧
 CallsS Tryz.prog 15 #[] W fun (e : Ending) (w' : World) =>
 ∃ (x_2 : Bool),
 e = Ending.returned (Value.bool x_2) ∧
 S w' ∧
 ∃ (p : Option Addr),
 ∃ (n_4 : Nat),
 ∃ (c : Nat),
 gimp x_2
 (∀ (w' : World), S w' → w'.cell? (Addr.mk n_3 (0 + 1) none) = some (Value.slice p n_4 c)) ∧
 bsp x_2
 (CallsS Tryz.prog 19 #[Value.pointer x] w' fun (e : Ending) (w' : World) =>
 ∃ (x : Int),
 e = Ending.returned (Value.int IntKind.i64 x) ∧
 S w' ∧
 KeptL [n_3, n] W w' ∧ R (Ending.returned (Value.bool (true && x == (↑n_4 : Int)))) w')
 (S w' ∧ KeptL [n_3, n] W w' ∧ R (Ending.returned (Value.bool false)) w'))
theorem vc_lrplays (ap : Option Addr) (an : Nat) (ac : Nat) (op : Option Addr) (on : Nat) (oc : Nat) (w : World) (R : Ending → World → Prop) (h : VC_lrplays ap an ac op on oc w R) : Calls Tryz.prog 4 ([Value.agg
    #[Value.slice ap an ac, Value.slice op on oc]] : List Value).toArray w R := by
  have e : execR2 { P := Tryz.prog, loops := [], pur := pur1, tails := [(4, 0)], joins := [], boxes := [] } Tryz.f4.results.toList R (Tryz.f4.body.getD .skip) (initF [Value.agg
    #[Value.slice ap an ac,
      Value.slice op on
        oc]] (Tryz.f4.ntmps - ([Value.agg
    #[Value.slice ap an ac,
      Value.slice op on oc]] : List Value).length)) w = VC_lrplays ap an ac op on oc w R := by kernel_rfl
  have hb : Tryz.f4.body = some (Tryz.f4.body.getD .skip) := by kernel_rfl
  exact calls_of_exec2' (P := Tryz.prog) (fn := Tryz.f4) (c := Tryz.f4.body.getD .skip) (args := [Value.agg
    #[Value.slice ap an ac, Value.slice op on oc]]) (w := w) (R := R) pur1_ok Tryz.func4 hb e h

end Go.Proofs.YtkkfnlehlkiejaaGreatDoor

/- Chapter 21: worlds of authorities and operations: Play. No condition but what a reading gives. -/
namespace Go.Proofs.YtkkfnlehlkiejaaGreatDoor
open Go.RowKit Go.Maps

/-! ### The reference's list against the map -/
structure DL (l : List (List Int × DX)) (ds : List DX) : Prop where
  eq : ds.map (fun x => x.d) = l.map (fun p => p.2.d)
  key : ∀ p ∈ l, p.1 = idI p.2.d.id
  dis : l.Pairwise fun p q => p.1 ≠ q.1
section
variable {l : List (List Int × DX)} {ds : List DX}
theorem DL.nil : DL [] [] := ⟨rfl, (fun p h => by cases h), .nil⟩
theorem DL.len (h : DL l ds) : ds.length = l.length := by
  have := congrArg List.length h.eq
  simpa using this
theorem DL.at (h : DL l ds) {i : Nat} {y : DX} (hi : ds[i]? = some y) : ∃ x, l[i]? = some (idI y.d.id, x) ∧ x.d = y.d := by
  have h1 := congrArg (fun z => z[i]?) h.eq
  simp only [List.getElem?_map, hi, Option.map_some] at h1
  cases hl : l[i]? with
  | none => rw [hl] at h1; cases h1
  | some p =>
    rw [hl] at h1
    simp only [Option.map_some, Option.some.injEq] at h1
    have hk := h.key p (List.mem_of_getElem? hl)
    obtain ⟨k, x⟩ := p
    simp only at h1 hk
    rw [← h1] at hk
    exact ⟨x, by rw [hk], h1.symm⟩
theorem DL.mem (h : DL l ds) {p : List Int × DX} (hp : p ∈ l) : ∃ y ∈ ds, y.d = p.2.d := by
  have : p.2.d ∈ ds.map (fun x => x.d) := by rw [h.eq]; exact List.mem_map.2 ⟨p, hp, rfl⟩
  obtain ⟨y, hy, e⟩ := List.mem_map.1 this
  exact ⟨y, hy, e⟩
theorem DL.no (h : DL l ds) {a : List Int} (ha : ∀ y ∈ ds, idI y.d.id ≠ a) : aget l a = none := by
  rw [aget_none]
  intro p hp e
  obtain ⟨y, hy, hd⟩ := h.mem hp
  exact ha y hy (by rw [hd, ← h.key p hp]; exact e)
theorem DL.get (h : DL l ds) {i : Nat} {y : DX} (hi : ds[i]? = some y) : ∃ x, aget l (idI y.d.id) = some x ∧ x.d = y.d := by
  obtain ⟨x, h1, h2⟩ := h.at hi
  exact ⟨x, aget_at h.dis (List.mem_of_getElem? h1), h2⟩
theorem DL.any (h : DL l ds) (a : List Int) : ds.any (fun y => decide (idI y.d.id = a)) = (aget l a).isSome := by
  rw [Bool.eq_iff_iff, List.any_eq_true]
  constructor
  · rintro ⟨y, hy, e⟩
    obtain ⟨i, hi⟩ := List.getElem?_of_mem hy
    obtain ⟨x, hx, _⟩ := h.get hi
    have e : idI y.d.id = a := by simpa using e
    rw [← e, hx]; rfl
  · intro hs
    refine Classical.byContradiction fun hn => ?_
    have := h.no (a := a) (fun y hy e => hn ⟨y, hy, by simpa using e⟩)
    rw [this] at hs; cases hs
theorem DL.addE (h : DL l ds) (A : List Au) (d : Df) : xaddE A ds d = addE A l d := by
  unfold xaddE Go.Proofs.YtkkfnlehlkiejaaGreatDoor.addE
  rw [h.any, h.len]
theorem DL.add (h : DL l ds) {x y : DX} (hn : aget l (idI x.d.id) = none) (hd : y.d = x.d) : DL (aset l (idI x.d.id) x) (ds ++ [y]) := by
  rw [aget_none] at hn
  rw [aset_new hn]
  refine ⟨by rw [List.map_append, List.map_append, h.eq]; simp [hd], fun p hp => ?_, ?_⟩
  · rcases List.mem_append.1 hp with hp | hp
    · exact h.key p hp
    · simp at hp; subst hp; rfl
  · rw [List.pairwise_append]
    refine ⟨h.dis, List.pairwise_singleton _ _, fun a ha b hb => ?_⟩
    simp at hb
    subst hb
    exact hn a ha
theorem DL.del (h : DL l ds) {i : Nat} {y : DX} (hi : ds[i]? = some y) : DL (adel l (idI y.d.id)) (ds.eraseIdx i) := by
  obtain ⟨x, h1, h2⟩ := h.at hi
  rw [adel_at h.dis h1]
  refine ⟨by rw [map_erase, map_erase, h.eq], fun p hp => h.key p ((List.eraseIdx_sublist _ _).subset hp), h.dis.sublist (List.eraseIdx_sublist _ _)⟩
theorem addE_zero {A : List Au} {d : Df} (h : addE A l d = 0) : dchk d = 0 ∧ isAu A d.g d.au = true ∧ aget l (idI d.id) = none ∧ l.length < 4096 := by
  unfold addE at h
  split at h
  · exact absurd h (by assumption)
  rename_i h1
  split at h
  · cases h
  rename_i h2
  split at h
  · cases h
  rename_i h3
  split at h
  · cases h
  refine ⟨Classical.byContradiction h1, by simpa using h2, ?_, by omega⟩
  cases hg : aget l (idI d.id) with
  | none => rfl
  | some x => rw [hg] at h3; exact absurd rfl h3
end

/-! ### A box of two slices is written -/
theorem cell_neS {w : World} {g o n1 : Nat} {v : Value} {q1 q2 : Option Addr} {k1 c1 k2 c2 : Nat} {t : TypeId} {z : Nat × Nat} (h : w.cell? ⟨g, o, none⟩ = some v) (hv : ∀ q k c, v ≠ .slice q k c) (hm : w.heap[n1]? = some (.cells #[.slice q1 k1 c1, .slice q2 k2 c2] t z)) : g ≠ n1 := fun e => by
  subst e
  rw [cell_block hm] at h
  have := Array.mem_of_getElem? h
  simp at this
  rcases this with rfl | rfl
  · exact hv _ _ _ rfl
  · exact hv _ _ _ rfl
theorem RowA.kpS {α : Type} {f : α → List Value} {L : Nat} {w w' : World} {p : Option Addr} {l : List α} {n1 : Nat} {q1 q2 : Option Addr} {k1 c1 k2 c2 : Nat} {t : TypeId} {z : Nat × Nat} (h : RowA f L w p l) (hf : ∀ y, ∃ v, (f y)[0]? = some v ∧ ∀ q k c, v ≠ .slice q k c) (hk : Kp (· = n1) w w') (hm : w.heap[n1]? = some (.cells #[.slice q1 k1 c1, .slice q2 k2 c2] t z)) : RowA f L w' p l := fun k y hy => by
  obtain ⟨b, o, h1, h2⟩ := h k y hy
  obtain ⟨v, hv, hn⟩ := hf y
  have hg := cell_neS (h2.cell hv) hn hm
  exact ⟨b, o, h1, ⟨At_of _ _ fun j u hu => hk.cell' (h2.cell hu) (fun e => hg e)⟩⟩
theorem auC_ns (y : Nat → Int) : ∃ v, (auC y)[0]? = some v ∧ ∀ q k c, v ≠ .slice q k c := ⟨.int .u8 (y 0), rfl, fun _ _ _ h => by cases h⟩
theorem atC_ns (y : Au) : ∃ v, (atC y)[0]? = some v ∧ ∀ q k c, v ≠ .slice q k c := ⟨.string y.pt, rfl, fun _ _ _ h => by cases h⟩
theorem dfC_ns (y : DX) : ∃ v, (dfC y)[0]? = some v ∧ ∀ q k c, v ≠ .slice q k c := ⟨.int .u8 (y.d.id 0), rfl, fun _ _ _ h => by cases h⟩
section
variable {w w' : World} {b mb : Nat} {A : List Au} {l : List (List Int × DX)} {n1 : Nat} {q1 q2 : Option Addr} {k1 c1 k2 c2 : Nat}
theorem SR.kpS {ds : List DX} {p : Option Addr} {c : Nat} (h : SR w ds p c) (hk : Kp (· = n1) w w') (hm : w.heap[n1]? = some (.cells #[.slice q1 k1 c1, .slice q2 k2 c2] 33 (0, 0))) : SR w' ds p c :=
  ⟨h.row.kpS dfC_ns hk hm, fun x hx => (h.ms x hx).kpS auC_ns hk hm, h.ok, h.le⟩
theorem Reg.kpS (h : Reg w b mb A l) (hk : Kp (· = n1) w w') (hm : w.heap[n1]? = some (.cells #[.slice q1 k1 c1, .slice q2 k2 c2] 33 (0, 0))) : Reg w' b mb A l := by
  refine ⟨?_, h.map.kp hk (fun e => ?_), fun a x hx => ⟨(h.str a x hx).1.kpS auC_ns hk hm, (h.str a x hx).2⟩, h.ok, h.au⟩
  · obtain ⟨ap, ac, lp, lc, h1, h2, h3⟩ := h.st
    refine ⟨ap, ac, lp, lc, hk.blk h1 (fun e => ?_), h2.kpS atC_ns hk hm, fun k x hx => ?_⟩
    · have e : b = n1 := e
      subst e
      rw [hm] at h1
      simp only [Option.some.injEq, Obj.cells.injEq] at h1
      exact absurd h1.2.1 (by decide)
    · obtain ⟨g, o, lb, es, a1, a2, a3, a4⟩ := h3 k x hx
      refine ⟨g, o, lb, es, a1, hk.cell' a2 (fun e => cell_neS a2 (fun _ _ _ h => by cases h) hm e), a3, a4.kpT hk (fun k c t f e hh => ?_)⟩
      have e : k = n1 := e
      subst e
      rw [hm] at hh
      simp only [Option.some.injEq, Obj.cells.injEq] at hh
      obtain ⟨_, rfl, _⟩ := hh
      decide
  · obtain ⟨es, c, hb, _⟩ := h.map.blk
    have e : mb = n1 := e
    subst e
    rw [hm] at hb; cases hb
end

/-! ### Play -/
/-- An operation. -/
structure OpY where
  dr : Bool
  x : DX
def opC (o : OpY) : List Value := [.bool o.dr] ++ dfC o.x
/-- What Play leaves: a registry and the reference's state that say the same. -/
structure PlayI (w w' : World) (b mb : Nat) (A : List Au) (ap : Option Addr) (ac : Nat) (l : List (List Int × DX)) (ds : List DX) (dp : Option Addr) (dc : Nat) : Prop where
  k : K0 w w'
  gb : w.heap.size ≤ b
  gm : w.heap.size ≤ mb
  reg : Reg w' b mb A l
  row : RowA atC 17 w' ap A
  sr : SR w' ds dp dc
  dl : DL l ds
structure AuOK (A : List Au) : Prop where
  len : A.length ≤ 64
  by_ : ∀ x ∈ A, BY x.au
  sz : ∀ x ∈ A, x.pt.size ≤ 1073741824
  all : ∀ x ∈ A, ∃ es, listR x.pt = .inl es
theorem PlayI.k0 {w w' w2 : World} {b mb : Nat} {A : List Au} {ap : Option Addr} {ac : Nat} {l : List (List Int × DX)} {ds : List DX} {dp : Option Addr} {dc : Nat} (h : PlayI w w' b mb A ap ac l ds dp dc) (hk : K0 w' w2) : PlayI w w2 b mb A ap ac l ds dp dc :=
  ⟨h.k.trans hk, h.gb, h.gm, h.reg.k0 hk, h.row.k0 hk, h.sr.k0 hk, h.dl⟩
def PlayQ (w : World) (A : List Au) (e : Ending) (w' : World) : Prop :=
  (∃ (p : Option Addr) (n c : Nat) (q : Option Addr) (k d : Nat), e = .returned (.tuple #[.pointer none, .agg #[.slice p n c, .slice q k d], .bool true]) ∧ K0 w w') ∨
  ∃ (b mb : Nat) (rp : Option Addr) (rc : Nat) (l : List (List Int × DX)) (ds : List DX) (dp : Option Addr) (dc : Nat), e = .returned (.tuple #[.pointer (some ⟨b, 0, none⟩), .agg #[.slice rp A.length rc, .slice dp ds.length dc], .bool true]) ∧
    PlayI w w' b mb A rp rc l ds dp dc ∧ AuOK A ∧ l.length ≤ 30
set_option maxRecDepth 100000 in
set_option maxHeartbeats 16000000 in
theorem lplay_any (As : List Au) (ap : Option Addr) (ac : Nat) (Os : List OpY) (op : Option Addr) (oc : Nat) (w : World) (hA : RowA atC 17 w ap As) (hB : ∀ x ∈ As, BY x.au) (hO : RowA opC 55 w op Os) (hR : ∀ x ∈ Os, DfR w x.x) (hG : GW w) :
    Calls Tryz.prog 18 #[.agg #[.slice ap As.length ac, .slice op Os.length oc]] w fun e w' => PlayQ w (autL As) e w' := by
  refine vc_lplay ap As.length ac op Os.length oc w _ (fun n n1 W hW => ?_)
  have kW : K0 w W := hW.kk rfl
  have gn1 : w.heap.size ≤ n1 := hW.fresh 0 rfl rfl
  have hne : n1 ≠ n := hW.apart 0 1 rfl rfl (by decide)
  have hb0 : W.heap[n1]? = some (.cells #[.slice none 0 0, .slice none 0 0] 33 (0, 0)) := hW.cells 0 rfl
  have hG' : ∀ {wa : World}, K0 w wa → GW wa := fun k => hG.kp k (fun h => h)
  refine ⟨(lauths_any As ap ac W (hA.k0 kW)).mono fun e w1 ⟨⟨p1, c1, p2, c2, he, hr1, hr2⟩, k1⟩ => ⟨_, _, _, _, _, _, he, .of_k0 k1, ?_⟩⟩
  have hB' := autL_BY hB
  have hS := @autL_sz As
  generalize autL As = A at *
  have k01 := kW.trans k1
  refine ⟨(rnew_any A p1 c1 w1 hr1 hB' hS (hG' k01)).mono fun e w2 ⟨hQ, k2⟩ => ?_⟩
  have k02 := k01.trans k2
  rcases hQ with ⟨h64, he⟩ | ⟨h64, hnz, he⟩ | ⟨h64, hz, b, mb, he, hReg, gb, gm⟩
  · refine ⟨_, _, _, he, .of_k0 k2, ⟨(xnew_any A p2 c2 w2 (hr2.k0 k2) hS).mono fun e w3 ⟨hQ, k3⟩ => ?_⟩⟩
    have k03 := k02.trans k3
    rcases hQ with ⟨_, he⟩ | ⟨h, _⟩ | ⟨h, _⟩
    · refine ⟨_, _, _, _, _, _, _, _, he, .of_k0 k3, bsp_intro (fun h => by simp at h) (fun _ => fun W4 hW4 => ?_)⟩
      have hb4 : W4.heap[n1]? = some (.cells #[.slice none 0 0, .slice none 0 0] 33 (0, 0)) := hW4.cells 0 rfl
      refine ⟨fun vs w' => vs = [.pointer none, .int .i64 0] ∧ w'.heap[n1]? = some (.cells #[.slice none 0 0, .slice none 0 0] 33 (0, 0)) ∧ K0 w w', fun _ _ => 0, ⟨rfl, hb4, hW4.k0 k03⟩, ?_⟩
      rintro x x5 w5 ⟨hv, hb5, k5⟩ hL5
      simp only [List.cons.injEq, Value.pointer.injEq, Value.int.injEq, true_and, and_true] at hv
      obtain ⟨rfl, rfl⟩ := hv
      refine bsp_intro (fun h => by simp at h) (fun _ => ?_)
      refine ⟨none, 0, 0, none, 0, 0, fun W6 hW6 => AtL_block ((hW6.kk rfl : K0 w5 W6).blk hb5 (fun h => h)) rfl, fun W6 hW6 => ⟨WrL_block ((hW6.kk rfl : K0 w5 W6).blk hb5 (fun h => h)) (Nat.le_refl 2), fun w7 p7 => ⟨.of_kp p7.kp (fun y hy e => ?_), none, 0, 0, none, 0, 0, AtL_block (p7.full ((hW6.kk rfl : K0 w5 W6).blk hb5 (fun h => h)) rfl) rfl, .inl ⟨_, _, _, _, _, _, rfl, put_k0 (k5.trans (hW6.kk rfl)) p7 gn1⟩⟩⟩⟩
      simp only [List.mem_cons, List.not_mem_nil, or_false] at hy
      exact hne (e.symm.trans hy)
    · omega
    · omega
  · refine ⟨_, _, _, he, .of_k0 k2, ⟨(xnew_any A p2 c2 w2 (hr2.k0 k2) hS).mono fun e w3 ⟨hQ, k3⟩ => ?_⟩⟩
    have k03 := k02.trans k3
    rcases hQ with ⟨h, _⟩ | ⟨_, _, he⟩ | ⟨_, h, _⟩
    · omega
    · refine ⟨_, _, _, _, _, _, _, _, he, .of_k0 k3, bsp_intro (fun h => by exfalso; simp at h; exact hnz h) (fun _ => fun W4 hW4 => ?_)⟩
      have hb4 : W4.heap[n1]? = some (.cells #[.slice none 0 0, .slice none 0 0] 33 (0, 0)) := hW4.cells 0 rfl
      refine ⟨fun vs w' => vs = [.pointer none, .int .i64 0] ∧ w'.heap[n1]? = some (.cells #[.slice none 0 0, .slice none 0 0] 33 (0, 0)) ∧ K0 w w', fun _ _ => 0, ⟨rfl, hb4, hW4.k0 k03⟩, ?_⟩
      rintro x x5 w5 ⟨hv, hb5, k5⟩ hL5
      simp only [List.cons.injEq, Value.pointer.injEq, Value.int.injEq, true_and, and_true] at hv
      obtain ⟨rfl, rfl⟩ := hv
      refine bsp_intro (fun h => by simp at h) (fun _ => ?_)
      refine ⟨none, 0, 0, none, 0, 0, fun W6 hW6 => AtL_block ((hW6.kk rfl : K0 w5 W6).blk hb5 (fun h => h)) rfl, fun W6 hW6 => ⟨WrL_block ((hW6.kk rfl : K0 w5 W6).blk hb5 (fun h => h)) (Nat.le_refl 2), fun w7 p7 => ⟨.of_kp p7.kp (fun y hy e => ?_), none, 0, 0, none, 0, 0, AtL_block (p7.full ((hW6.kk rfl : K0 w5 W6).blk hb5 (fun h => h)) rfl) rfl, .inl ⟨_, _, _, _, _, _, rfl, put_k0 (k5.trans (hW6.kk rfl)) p7 gn1⟩⟩⟩⟩
      simp only [List.mem_cons, List.not_mem_nil, or_false] at hy
      exact hne (e.symm.trans hy)
    · rw [h] at hnz; exact absurd rfl hnz
  · refine ⟨_, _, _, he, .of_k0 k2, ⟨(xnew_any A p2 c2 w2 (hr2.k0 k2) hS).mono fun e w3 ⟨hQ, k3⟩ => ?_⟩⟩
    have k03 := k02.trans k3
    rcases hQ with ⟨h, _⟩ | ⟨_, h, _⟩ | ⟨_, _, rp, rc, he, hra⟩
    · omega
    · rw [hz] at h; exact absurd rfl h
    refine ⟨_, _, _, _, _, _, _, _, he, .of_k0 k3, bsp_intro (fun h => by simp at h) (fun _ => fun W4 hW4 => ?_)⟩
    have hb3 := ((k1.trans k2).trans k3).blk hb0 (fun h => h)
    have kp4 : Kp (· = n1) w3 W4 := hW4.kp.mono (fun j _ ⟨y, hy, hm, e⟩ => by
      simp only [List.mem_cons, List.not_mem_nil, or_false] at hy
      rcases hy with rfl | rfl
      · exact e.symm
      · cases hm)
    have hb4 : W4.heap[n1]? = some (.cells #[.slice rp A.length rc, .slice none 0 0] 33 (0, 0)) := hW4.cells 0 rfl
    have sz1 := k01.size
    have hOK : AuOK A := ⟨h64, hB', hS, newE_all A 0 (by rw [hz])⟩
    have hI4 : PlayI w W4 b mb A rp rc [] [] none 0 := ⟨hW4.k0 k03, by omega, by omega, (hReg.k0 k3).kpS kp4 hb3, hra.kpS atC_ns kp4 hb3, .nil _, .nil⟩
    refine ⟨fun vs w' => ∃ (k : Nat) (l : List (List Int × DX)) (ds : List DX) (dp : Option Addr) (dc : Nat), vs = [.pointer (some ⟨b, 0, none⟩), .int .i64 (k : Int)] ∧ k ≤ Os.length ∧ k ≤ 30 ∧ l.length ≤ k ∧
        w'.heap[n1]? = some (.cells #[.slice rp A.length rc, .slice dp ds.length dc] 33 (0, 0)) ∧ PlayI w w' b mb A rp rc l ds dp dc,
      fun vs _ => (match vs with | [_, .int _ a] => Os.length - a.toNat | _ => 0), ⟨0, [], [], none, 0, rfl, by omega, by omega, by simp, hb4, hI4⟩, ?_⟩
    rintro x x5 w5 ⟨k, l, ds, dp, dc, hv, hk, hk30, hlk, hb5, hI⟩ hL5
    simp only [List.cons.injEq, Value.pointer.injEq, Value.int.injEq, true_and, and_true] at hv
    obtain ⟨rfl, rfl⟩ := hv
    have hdl := hI.dl.len
    refine bsp_intro (fun hlt => ?_) (fun hge => ?_)
    rotate_left
    · refine ⟨rp, A.length, rc, dp, ds.length, dc, fun W6 hW6 => AtL_block ((hW6.kk rfl : K0 w5 W6).blk hb5 (fun h => h)) rfl, fun W6 hW6 => ?_⟩
      have k6 : K0 w5 W6 := hW6.kk rfl
      have hb6 := k6.blk hb5 (fun h => h)
      refine ⟨WrL_block hb6 (Nat.le_refl 2), fun w7 p7 => ⟨.of_kp p7.kp (fun y hy e => ?_), rp, A.length, rc, dp, ds.length, dc, AtL_block (p7.full hb6 rfl) rfl, .inr ⟨b, mb, rp, rc, l, ds, dp, dc, rfl, ?_, hOK, by omega⟩⟩⟩
      · simp only [List.mem_cons, List.not_mem_nil, or_false] at hy
        exact hne (e.symm.trans hy)
      · have hI6 := hI.k0 k6
        exact ⟨put_k0 hI6.k p7 gn1, hI.gb, hI.gm, hI6.reg.kpS p7.kp hb6, hI6.row.kpS atC_ns p7.kp hb6, hI6.sr.kpS p7.kp hb6, hI.dl⟩
    have hlt : k < Os.length ∧ k < 30 := by simp at hlt; omega
    obtain ⟨o, bb, oo, ho, hp, hat⟩ := (hO.k0 hI.k).get hlt.1
    have hD := hR o (List.mem_of_getElem? ho)
    have zx := toD_OK hD.ok
    have lx : (toD o.x.d).ms.length ≤ 10 := by show (o.x.d.ms.take 10).length ≤ 10; rw [List.length_take]; omega
    rw [Int.toNat_natCast]
    have hcb : w5.cell? ⟨bb, oo + k * 55, none⟩ = some (.bool o.dr) := by simpa using hat.cell (j := 0) rfl
    have hcd : AtL w5 bb (oo + k * 55 + 1) (dfC o.x) := ⟨At_of _ _ fun j v hv => by
      have := hat.cell (j := j + 1) (v := v) (by simpa [opC] using hv)
      rw [show oo + k * 55 + (j + 1) = oo + k * 55 + 1 + j by omega] at this
      exact this⟩
    have hm1 : ∀ (m : Nat), m = k + 1 → IntKind.i64.wrap ((k : Int) + 1) = (m : Int) := fun m e => by subst e; exact inc64 (by omega)
    refine nn_is hp ⟨⟨by omega, by omega⟩, o.x.d.id, o.x.d.au, o.x.d.g, o.x.d.v, o.x.d.rm, o.x.d.md, o.x.p, o.x.d.ms.length, o.x.c, o.x.d.tx, hcd, ?_⟩
    refine ⟨(lto_any o.x w5 (hD.row.k0 hI.k)).mono fun e w6 ⟨⟨q, cq, he, hmo⟩, k6⟩ => ⟨_, _, _, _, _, _, _, _, _, _, he, .of_k0 k6, fun n8 => ?_⟩⟩
    have ln1 := block_lt hb5
    have s6 := k6.size
    refine nn_is hp ⟨⟨by omega, by omega⟩, o.dr, fun W7 hW7 => (hW7.kk rfl : K0 w6 W7).cell' (k6.cell' hcb (fun h => h)) (fun h => h), bsp_intro (fun hd => ?_) (fun hd => ?_)⟩
    · refine ⟨rp, A.length, rc, dp, ds.length, dc, fun W7 hW7 => AtL_block ((k6.trans (hW7.kk rfl : K0 w6 W7)).blk hb5 (fun h => h)) rfl, fun W7 hW7 => ?_⟩
      have k7 : K0 w6 W7 := hW7.kk rfl
      have hI7 := hI.k0 (k6.trans k7)
      have hb7 := (k6.trans k7).blk hb5 (fun h => h)
      have hn8 := hW7.cells 1 rfl
      have hn := hW7.cells 0 rfl
      have h8 : n8 ≠ n1 := fun e => by have := hW7.fresh 1 rfl rfl; simp only at this; omega
      refine ⟨(xdrop_any A rp rc ds dp dc (toD o.x.d).id W7 hI7.sr (by omega) zx.id).mono fun e w8 ⟨hQ, k8⟩ => ?_⟩
      have hb8 := k8.blk hb7 (fun h => h)
      rcases hQ with ⟨he, hno⟩ | ⟨i, y, p', c', he, hy, hya, how⟩
      · refine ⟨_, _, _, _, _, _, _, he, .of_k0 k8, WrL_block hb8 (Nat.le_refl 2), fun w9 p9 => ⟨.of_kp p9.kp (fun y hy e => ?_), ?_⟩⟩
        · simp only [List.mem_cons, List.not_mem_nil, or_false] at hy
          have e : y = n1 := e
          rcases hy with hy | hy
          · exact hne (e.symm.trans hy)
          · exact h8 (hy.symm.trans e)
        have hI8 := hI7.k0 k8
        have hb9 := p9.full hb8 rfl
        have hreg9 := hI8.reg.kpS p9.kp hb8
        have hrow9 := hI8.row.kpS atC_ns p9.kp hb8
        have hsr9 := hI8.sr.kpS p9.kp hb8
        have k09 := put_k0 hI8.k p9 gn1
        obtain ⟨es, cm, hmb, _⟩ := hreg9.map.blk
        have hn9 := p9.kp.blk (k8.blk hn (fun h => h)) (fun e => hne e.symm)
        have hn89 := p9.kp.blk (k8.blk hn8 (fun h => h)) (fun e => h8 e)
        refine ⟨(rdrop_any hreg9 _ zx.id).mono fun e w10 ⟨hQ, k10⟩ => ?_⟩
        rcases hQ with ⟨_, he, hReg10⟩ | ⟨h, _⟩
        · refine ⟨_, he, .of_kp k10 (fun y hy e => ?_), bsp_intro (fun h => by simp at h) (fun _ => ⟨⟨k + 1, l, ds, dp, dc, by rw [inc64 (by omega)], hlt.1, hlt.2, by omega, k10.blk hb9 (fun e => ?_), ?_⟩, by rw [inc64 (by omega)]; simp only [Int.toNat_natCast]; omega⟩)⟩
          · have e : y = mb := e
            subst e
            simp only [List.mem_cons, List.not_mem_nil, or_false] at hy
            rcases hy with hy | hy
            · subst hy; rw [hn9] at hmb; cases hmb
            · subst hy; rw [hn89] at hmb; cases hmb
          · have e : n1 = mb := e
            subst e; rw [hb9] at hmb; cases hmb
          · exact ⟨k09.fresh k10 (fun j hj e => by have := hI.gm; omega), hI.gb, hI.gm, hReg10, hrow9.kpM k10 hmb, hsr9.kpM k10 hmb, hI.dl⟩
        · rw [hI.dl.no hno] at h; cases h
      · refine ⟨_, _, _, _, _, _, _, he, .of_k0 k8, WrL_block hb8 (Nat.le_refl 2), fun w9 p9 => ⟨.of_kp p9.kp (fun y hy e => ?_), ?_⟩⟩
        · simp only [List.mem_cons, List.not_mem_nil, or_false] at hy
          have e : y = n1 := e
          rcases hy with hy | hy
          · exact hne (e.symm.trans hy)
          · exact h8 (hy.symm.trans e)
        have hI8 := hI7.k0 k8
        have hb9 := p9.full hb8 rfl
        have hsub : ∀ x ∈ ds.eraseIdx i, x ∈ ds := fun x hx => (List.eraseIdx_sublist _ _).subset hx
        have hsr8 : SR w8 (ds.eraseIdx i) p' c' := .own how (fun x hx => hI8.sr.ms x (hsub x hx)) (fun x hx => hI8.sr.ok x (hsub x hx))
        have hreg9 := hI8.reg.kpS p9.kp hb8
        have hrow9 := hI8.row.kpS atC_ns p9.kp hb8
        have hsr9 := hsr8.kpS p9.kp hb8
        have k09 := put_k0 hI8.k p9 gn1
        obtain ⟨es, cm, hmb, _⟩ := hreg9.map.blk
        have hn9 := p9.kp.blk (k8.blk hn (fun h => h)) (fun e => hne e.symm)
        have hn89 := p9.kp.blk (k8.blk hn8 (fun h => h)) (fun e => h8 e)
        have hdel := hI.dl.del hy
        rw [hya] at hdel
        obtain ⟨x0, hx0, _⟩ := hI.dl.get hy
        rw [hya] at hx0
        refine ⟨(rdrop_any hreg9 _ zx.id).mono fun e w10 ⟨hQ, k10⟩ => ?_⟩
        rcases hQ with ⟨h, _⟩ | ⟨_, he, hReg10⟩
        · rw [hx0] at h; cases h
        · refine ⟨_, he, .of_kp k10 (fun y hy e => ?_), bsp_intro (fun h => by simp at h) (fun _ => ⟨⟨k + 1, adel l (idI (toD o.x.d).id), ds.eraseIdx i, p', c', by rw [inc64 (by omega)], hlt.1, hlt.2, ?_, k10.blk hb9 (fun e => ?_), ?_⟩, by rw [inc64 (by omega)]; simp only [Int.toNat_natCast]; omega⟩)⟩
          · have e : y = mb := e
            subst e
            simp only [List.mem_cons, List.not_mem_nil, or_false] at hy
            rcases hy with hy | hy
            · subst hy; rw [hn9] at hmb; cases hmb
            · subst hy; rw [hn89] at hmb; cases hmb
          · have h1 := hdel.len
            have h2 : (ds.eraseIdx i).length ≤ ds.length := (List.eraseIdx_sublist _ _).length_le
            omega
          · have e : n1 = mb := e
            subst e; rw [hb9] at hmb; cases hmb
          · exact ⟨k09.fresh k10 (fun j hj e => by have := hI.gm; omega), hI.gb, hI.gm, hReg10, hrow9.kpM k10 hmb, hsr9.kpM k10 hmb, hdel⟩
    · intro W7 hW7
      have k7 : K0 w6 W7 := hW7.kk rfl
      have hI7 := hI.k0 (k6.trans k7)
      have hb7 := (k6.trans k7).blk hb5 (fun h => h)
      have hn8 := hW7.cells 1 rfl
      have hn := hW7.cells 0 rfl
      have h8 : n8 ≠ n1 := fun e => by have := hW7.fresh 1 rfl rfl; simp only at this; omega
      have hmo7 := hmo.k0 k7
      refine ⟨fun wx => K0 W7 wx, .refl _ _, rp, A.length, rc, dp, ds.length, dc, fun wx k => AtL_block (k.blk hb7 (fun h => h)) rfl, _, _, _, _, _, _, _, _, _, _, fun wx k => AtL_block (k.blk hn8 (fun h => h)) rfl, ?_⟩
      refine ⟨(lof_any ⟨toD o.x.d, q, cq⟩ W7 hmo7.row (Nat.le_trans lx (by decide))).mono fun e w8 ⟨⟨q2, d2, he, hmr⟩, k8⟩ => ⟨_, _, _, _, _, _, _, _, _, _, he, k8, ?_⟩⟩
      have hI8 := hI7.k0 k8
      refine ⟨(xadd_any A rp rc ds dp dc ⟨toD o.x.d, q2, d2⟩ w8 hI8.row hB' h64 hOK.all hS hI8.sr (by omega) hmr.row zx).mono fun e w9 ⟨hQ, k9⟩ => ?_⟩
      have k79 := k8.trans k9
      have hb9 := k79.blk hb7 (fun h => h)
      have hI9 := hI8.k0 k9
      have hmo9 := hmo7.k0 k79
      have hle := own_le hmo
      have hE := hI.dl.addE A (toD o.x.d)
      rcases hQ with ⟨hnz, he⟩ | ⟨hz2, p', c', he, how⟩
      · refine ⟨_, _, _, _, _, _, _, he, WrL_block hb9 (Nat.le_refl 2), fun w10 p10 => ⟨.of_kp ((k79.mono fun _ _ h => h.elim).trans p10.kp) (fun y hy e => ?_), ?_⟩⟩
        · simp only [List.mem_cons, List.not_mem_nil, or_false] at hy
          have e : y = n1 := e
          rcases hy with hy | hy
          · exact hne (e.symm.trans hy)
          · exact h8 (hy.symm.trans e)
        have hb10 := p10.full hb9 rfl
        have hreg10 := hI9.reg.kpS p10.kp hb9
        have hrow10 := hI9.row.kpS atC_ns p10.kp hb9
        have hsr10 := hI9.sr.kpS p10.kp hb9
        have k010 := put_k0 hI9.k p10 gn1
        have hmo10 := hmo9.row.kpS auC_ns p10.kp hb9
        refine ⟨(radd_any hreg10 h64 ⟨toD o.x.d, q, cq⟩ hmo10 hle zx (hG' k010)).mono fun e w11 ⟨he, hQ⟩ => ?_⟩
        rcases hQ with ⟨_, hReg11, k11⟩ | ⟨h0, _⟩
        · refine ⟨_, he, .of_k0 k11, bsp_intro (fun h => by exfalso; rw [hE] at h; simp at h) (fun _ => ⟨⟨k + 1, l, ds, dp, dc, by rw [inc64 (by omega)], hlt.1, hlt.2, by omega, k11.blk hb10 (fun h => h), ⟨k010.trans k11, hI.gb, hI.gm, hReg11, hrow10.k0 k11, hsr10.k0 k11, hI.dl⟩⟩, by rw [inc64 (by omega)]; simp only [Int.toNat_natCast]; omega⟩)⟩
        · exact absurd (hE.trans h0) hnz
      · refine ⟨_, _, _, _, _, _, _, he, WrL_block hb9 (Nat.le_refl 2), fun w10 p10 => ⟨.of_kp ((k79.mono fun _ _ h => h.elim).trans p10.kp) (fun y hy e => ?_), ?_⟩⟩
        · simp only [List.mem_cons, List.not_mem_nil, or_false] at hy
          have e : y = n1 := e
          rcases hy with hy | hy
          · exact hne (e.symm.trans hy)
          · exact h8 (hy.symm.trans e)
        have h0' : addE A l (toD o.x.d) = 0 := hE.symm.trans hz2
        obtain ⟨z1, _, z3, _⟩ := addE_zero h0'
        have hsr9 : SR w9 (ds ++ [⟨toD o.x.d, q2, d2⟩]) p' c' := .own how (fun x hx => by
          rcases List.mem_append.1 hx with hx | hx
          · exact hI9.sr.ms x hx
          · simp at hx; subst hx; exact hmr.row.k0 k9) (fun x hx => by
          rcases List.mem_append.1 hx with hx | hx
          · exact hI9.sr.ok x hx
          · simp at hx; subst hx; exact ⟨z1, own_le hmr, zx⟩)
        have hb10 := p10.full hb9 rfl
        have hreg10 := hI9.reg.kpS p10.kp hb9
        have hrow10 := hI9.row.kpS atC_ns p10.kp hb9
        have hsr10 := hsr9.kpS p10.kp hb9
        have k010 := put_k0 hI9.k p10 gn1
        have hmo10 := hmo9.row.kpS auC_ns p10.kp hb9
        obtain ⟨es, cm, hmb, _⟩ := hreg10.map.blk
        have hn10 := p10.kp.blk (k79.blk hn (fun h => h)) (fun e => hne e.symm)
        have hn810 := p10.kp.blk (k79.blk hn8 (fun h => h)) (fun e => h8 e)
        refine ⟨(radd_any hreg10 h64 ⟨toD o.x.d, q, cq⟩ hmo10 hle zx (hG' k010)).mono fun e w11 ⟨he, hQ⟩ => ?_⟩
        rcases hQ with ⟨h0, _⟩ | ⟨_, pn, cn, hReg11, _, k11⟩
        · exact absurd h0' h0
        · have hdl' : DL (aset l (idI (toD o.x.d).id) ⟨toD o.x.d, pn, cn⟩) (ds ++ [⟨toD o.x.d, q2, d2⟩]) := hI.dl.add (x := ⟨toD o.x.d, pn, cn⟩) z3 rfl
          refine ⟨_, he, .of_kp k11 (fun y hy e => ?_), bsp_intro (fun h => by exfalso; rw [show addE A l (DX.mk (toD o.x.d) q cq).d = 0 from h0'] at h; simp at h) (fun _ => ⟨⟨k + 1, aset l (idI (toD o.x.d).id) ⟨toD o.x.d, pn, cn⟩, ds ++ [⟨toD o.x.d, q2, d2⟩], p', c', by rw [inc64 (by omega)], hlt.1, hlt.2, ?_, k11.blk hb10 (fun e => ?_), ?_⟩, by rw [inc64 (by omega)]; simp only [Int.toNat_natCast]; omega⟩)⟩
          · have e : y = mb := e
            subst e
            simp only [List.mem_cons, List.not_mem_nil, or_false] at hy
            rcases hy with hy | hy
            · subst hy; rw [hn10] at hmb; cases hmb
            · subst hy; rw [hn810] at hmb; cases hmb
          · have h1 := hdl'.len
            rw [List.length_append] at h1
            simp only [List.length_cons, List.length_nil] at h1
            omega
          · have e : n1 = mb := e
            subst e; rw [hb10] at hmb; cases hmb
          · exact ⟨k010.fresh k11 (fun j hj e => by have := hI.gm; omega), hI.gb, hI.gm, hReg11, hrow10.kpM k11 hmb, hsr10.kpM k11 hmb, hdl'⟩

end Go.Proofs.YtkkfnlehlkiejaaGreatDoor

/- Chapter 21: worlds of authorities and operations as arguments, with their sizes. No condition. -/
namespace Go.Proofs.YtkkfnlehlkiejaaGreatDoor
open Go.ChangeShapes Go.WideShapes Go.ChangeAt Go.RowKit Go.Deep

instance : Inhabited OpY := ⟨⟨false, dxz⟩⟩
section
variable {H : Type} {enc : TypeId × Value → H} {W : World} {base : Nat} {v : Value}
theorem cellsOp21 : Tryz.prog.cellsOf 84 = 55 := by kernel_rfl
theorem cellsW21 : Tryz.prog.cellsOf 42 = 2 := by kernel_rfl
set_option maxRecDepth 100000 in
theorem rw_Op {l : List Value} (hl : l.length = 55) (hr : Rw enc Tryz.prog W 84 l) : ∃ o : OpY, l = opC o ∧ DfR W o.x := by
  obtain ⟨b0, e0⟩ := Rw.bool (cs := (l.drop 0).take 1) (hr.field Tryz.underlying84 (i := 0) rfl) Tryz.underlying4
  obtain ⟨x, e1, hx⟩ := rw_D (l := (l.drop 1).take 54) (by simp [hl]) (hr.field Tryz.underlying84 (i := 1) rfl)
  refine ⟨⟨b0, x⟩, ?_, hx⟩
  have e0 : l.take 1 = [.bool b0] := e0
  rw [List.take_of_length_le (by simp [hl])] at e1
  rw [← List.take_append_drop 1 l, e0, e1]; rfl
set_option maxRecDepth 100000 in
/-- Operations that were read. -/
theorem open_Ops {cs : List Value} (hr : Rw enc Tryz.prog W 40 cs) : ∃ (p : Option Addr) (l : List OpY) (c : Nat), cs = [.slice p l.length c] ∧ RowA opC 55 W p l ∧ ∀ o ∈ l, DfR W o.x := by
  obtain ⟨p, n, c, hcs, hnc, hby, _, hel⟩ := hr.slice Tryz.underlying40 (by rw [cellsOp21]; decide)
  rw [cellsOp21] at hel
  have key : ∀ i, i < n → ∃ y : OpY, (∃ b o, p = some ⟨b, o, none⟩ ∧ AtL W b (o + i * 55) (opC y)) ∧ DfR W y.x := fun i hi => by
    obtain ⟨b, o, cs', hp, hl, hc, hrw⟩ := hel i hi
    obtain ⟨y, e, hy⟩ := rw_Op hl hrw
    subst e
    exact ⟨y, ⟨b, o, hp, ⟨At_of _ _ fun j v hv => hc j v hv⟩⟩, hy⟩
  obtain ⟨l, hlen, hL⟩ := list_of key
  exact ⟨p, l, c, by rw [hlen]; exact hcs, fun k y hy => (hL k y hy).1, fun h hh => by
    obtain ⟨j, hj, e⟩ := List.getElem_of_mem hh
    exact (hL j h (by rw [List.getElem?_eq_getElem hj, e])).2⟩
set_option maxRecDepth 100000 in
theorem openw_W (hv : Value.okWide Tryz.prog W .any base 42 v) (hr : Rw enc Tryz.prog W 42 v.cells.toList) : ∃ (ap : Option Addr) (As : List Au) (ac : Nat) (op : Option Addr) (Os : List OpY) (oc : Nat), v = .agg #[.slice ap As.length ac, .slice op Os.length oc] ∧ RowA atC 17 W ap As ∧ (∀ x ∈ As, BY x.au) ∧ RowA opC 55 W op Os ∧ ∀ o ∈ Os, DfR W o.x := by
  obtain ⟨cs, rfl, hsz⟩ := okWide_struct Tryz.underlying42 hv
  rw [cellsW21] at hsz
  obtain ⟨l⟩ := cs
  have hsz : l.length = 2 := hsz
  match l, hsz with
  | [c0, c1], _ =>
    have hr : Rw enc Tryz.prog W 42 [c0, c1] := hr
    obtain ⟨ap, As, ac, e0, h1, h2⟩ := open_As (cs := [c0]) (hr.field Tryz.underlying42 (i := 0) rfl)
    obtain ⟨op, Os, oc, e1, h3, h4⟩ := open_Ops (cs := [c1]) (hr.field Tryz.underlying42 (i := 1) rfl)
    simp only [List.cons.injEq, and_true] at e0 e1
    subst e0 e1
    exact ⟨ap, As, ac, op, Os, oc, rfl, h1, h2, h3, h4⟩
end

end Go.Proofs.YtkkfnlehlkiejaaGreatDoor

/- The formulas of functions by the symbolic evaluator, and that each gives the call's contract. Written by a program (gen.py). No condition. -/
namespace Go.Proofs.YtkkfnlehlkiejaaGreatDoor
set_option maxRecDepth 100000
set_option linter.unusedVariables false

def VC_xless (id : Nat → Int) (au : Nat → Int) (g : ByteArray) (v : Int) (rm : Bool) (md : Bool) (p : Option Addr) (n : Nat) (c : Nat) (t : ByteArray) (id2 : Nat → Int) (au2 : Nat → Int) (g2 : ByteArray) (v2 : Int) (rm2 : Bool) (md2 : Bool) (p2 : Option Addr) (n2 : Nat) (c2 : Nat) (t2 : ByteArray) (w : World) (R : Ending → World → Prop) : Prop :=
 ∀ (n_1 n_2 : Nat),
 bsp (v != v2)
 (∀ (W : World),
 Loc w.heap.size
 [Blk.mk n_2 50
 (arrI IntKind.u8 id2 32 0 ++ (arrI IntKind.u8 au2 16 0 ++ [Value.string g2,
 Value.int IntKind.i64 v2, Value.bool rm2, Value.bool md2, Value.slice p2 n2 c2, Value.string t2]))
 2,
 Blk.mk n_1 50
 (arrI IntKind.u8 id 32 0 ++ (arrI IntKind.u8 au 16 0 ++ [Value.string g,
 Value.int IntKind.i64 v, Value.bool rm, Value.bool md, Value.slice p n c, Value.string t]))
 2]
 w W →
 R (Ending.returned (Value.bool (decide (v > v2)))) W)
 (∀ (W : World),
 Loc w.heap.size
 [Blk.mk n_2 50
 (arrI IntKind.u8 id2 32 0 ++ (arrI IntKind.u8 au2 16 0 ++ [Value.string g2,
 Value.int IntKind.i64 v2, Value.bool rm2, Value.bool md2, Value.slice p2 n2 c2, Value.string t2]))
 2,
 Blk.mk n_1 50
 (arrI IntKind.u8 id 32 0 ++ (arrI IntKind.u8 au 16 0 ++ [Value.string g,
 Value.int IntKind.i64 v, Value.bool rm, Value.bool md, Value.slice p n c, Value.string t]))
 2]
 w W →
 ∃ (s : ByteArray),
 (s.size = 32 ∧ BytesP W (some (Addr.mk n_1 0 none)) s) ∧
 ∃ (s_1 : ByteArray),
 (s_1.size = 32 ∧ BytesP W (some (Addr.mk n_2 0 none)) s_1) ∧
 R (Ending.returned (Value.bool (Op.bytesLess s.toList s_1.toList))) W)
theorem vc_xless (id : Nat → Int) (au : Nat → Int) (g : ByteArray) (v : Int) (rm : Bool) (md : Bool) (p : Option Addr) (n : Nat) (c : Nat) (t : ByteArray) (id2 : Nat → Int) (au2 : Nat → Int) (g2 : ByteArray) (v2 : Int) (rm2 : Bool) (md2 : Bool) (p2 : Option Addr) (n2 : Nat) (c2 : Nat) (t2 : ByteArray) (w : World) (R : Ending → World → Prop) (h : VC_xless id au g v rm md p n c t id2 au2 g2 v2 rm2 md2 p2 n2 c2 t2 w R) : Calls Tryz.prog 58 ([Value.agg
    (arrI IntKind.u8 id 32 0 ++
        (arrI IntKind.u8 au 16 0 ++
          [Value.string g, Value.int IntKind.i64 v, Value.bool rm, Value.bool md, Value.slice p n c,
            Value.string t])).toArray,
  Value.agg
    (arrI IntKind.u8 id2 32 0 ++
        (arrI IntKind.u8 au2 16 0 ++
          [Value.string g2, Value.int IntKind.i64 v2, Value.bool rm2, Value.bool md2, Value.slice p2 n2 c2,
            Value.string t2])).toArray] : List Value).toArray w R := by
  have e : execR2 { P := Tryz.prog, loops := [], pur := pur1, tails := [], joins := [], boxes := [] } Tryz.f58.results.toList R (Tryz.f58.body.getD .skip) (initF [Value.agg
    (arrI IntKind.u8 id 32 0 ++
        (arrI IntKind.u8 au 16 0 ++
          [Value.string g, Value.int IntKind.i64 v, Value.bool rm, Value.bool md, Value.slice p n c,
            Value.string t])).toArray,
  Value.agg
    (arrI IntKind.u8 id2 32 0 ++
        (arrI IntKind.u8 au2 16 0 ++
          [Value.string g2, Value.int IntKind.i64 v2, Value.bool rm2, Value.bool md2, Value.slice p2 n2 c2,
            Value.string
              t2])).toArray] (Tryz.f58.ntmps - ([Value.agg
    (arrI IntKind.u8 id 32 0 ++
        (arrI IntKind.u8 au 16 0 ++
          [Value.string g, Value.int IntKind.i64 v, Value.bool rm, Value.bool md, Value.slice p n c,
            Value.string t])).toArray,
  Value.agg
    (arrI IntKind.u8 id2 32 0 ++
        (arrI IntKind.u8 au2 16 0 ++
          [Value.string g2, Value.int IntKind.i64 v2, Value.bool rm2, Value.bool md2, Value.slice p2 n2 c2,
            Value.string
              t2])).toArray] : List Value).length)) w = VC_xless id au g v rm md p n c t id2 au2 g2 v2 rm2 md2 p2 n2 c2 t2 w R := by kernel_rfl
  have hb : Tryz.f58.body = some (Tryz.f58.body.getD .skip) := by kernel_rfl
  exact calls_of_exec2' (P := Tryz.prog) (fn := Tryz.f58) (c := Tryz.f58.body.getD .skip) (args := [Value.agg
    (arrI IntKind.u8 id 32 0 ++
        (arrI IntKind.u8 au 16 0 ++
          [Value.string g, Value.int IntKind.i64 v, Value.bool rm, Value.bool md, Value.slice p n c,
            Value.string t])).toArray,
  Value.agg
    (arrI IntKind.u8 id2 32 0 ++
        (arrI IntKind.u8 au2 16 0 ++
          [Value.string g2, Value.int IntKind.i64 v2, Value.bool rm2, Value.bool md2, Value.slice p2 n2 c2,
            Value.string t2])).toArray]) (w := w) (R := R) pur1_ok Tryz.func58 hb e h

def VC_xvers (ap : Option Addr) (an : Nat) (ac : Nat) (dp : Option Addr) (dn : Nat) (dc : Nat) (s : ByteArray) (w : World) (R : Ending → World → Prop) : Prop :=
 ∀ (n : Nat) (W : World),
 Loc w.heap.size [Blk.mk n 33 [Value.slice ap an ac, Value.slice dp dn dc] 2] w W →
 ∃ (I : List Value → World → Prop),
 ∃ (m : List Value → World → Nat),
 I [Value.int IntKind.i64 0, Value.slice none 0 0] W ∧
 ∀ (x : Int) (p : Option Addr) (n_1 c : Nat) (w' : World),
 I [Value.int IntKind.i64 x, Value.slice p n_1 c] w' →
 Loc w.heap.size [Blk.mk n 33 [Value.slice ap an ac, Value.slice dp dn dc] 0] w' w' →
 bsp (decide (x < (↑dn : Int)))
 (nn true dp fun (b o : Nat) =>
 (0 ≤ x ∧ x < (↑dn : Int)) ∧
 ∃ (x_1 : ByteArray),
 w'.cell? (Addr.mk b (o + x.toNat * 54 + 48) none) = some (Value.string x_1) ∧
 bsp (!x_1.toList == s.toList)
 (I [Value.int IntKind.i64 (IntKind.i64.wrap (x + 1)), Value.slice p n_1 c] w' ∧
 m [Value.int IntKind.i64 (IntKind.i64.wrap (x + 1)), Value.slice p n_1 c] w' <
 m [Value.int IntKind.i64 x, Value.slice p n_1 c] w')
 (∃ (I_1 : List Value → World → Prop),
 ∃ (m_1 : List Value → World → Nat),
 I_1 [Value.int IntKind.i64 (↑n_1 : Int)] w' ∧
 ∀ (x_2 : Int) (w'_1 : World),
 I_1 [Value.int IntKind.i64 x_2] w'_1 →
 Loc w.heap.size [Blk.mk n 33 [Value.slice ap an ac, Value.slice dp dn dc] 0] w'_1 w'_1 →
 ∃ (p_1 : Option Addr),
 ∃ (n_2 : Nat),
 ∃ (c_1 : Nat),
 gimp (decide (x_2 > 0))
 (∀ (W : World),
 Loc w.heap.size [Blk.mk n 33 [Value.slice ap an ac, Value.slice dp dn dc] 0] w'_1 W →
 W.cell? (Addr.mk n (0 + 1) none) = some (Value.slice p_1 n_2 c_1)) ∧
 nn (decide (x_2 > 0)) p_1 fun (b o : Nat) =>
 gimp (decide (x_2 > 0)) (0 ≤ x ∧ x < (↑n_2 : Int)) ∧
 ∃ (f : Nat → Int),
 ∃ (f_1 : Nat → Int),
 ∃ (x_3 : ByteArray),
 ∃ (x_4 : Int),
 ∃ (x_5 : Bool),
 ∃ (x_6 : Bool),
 ∃ (p_2 : Option Addr),
 ∃ (n_3 : Nat),
 ∃ (c_2 : Nat),
 ∃ (x_7 : ByteArray),
 gimp (decide (x_2 > 0))
 (∀ (W : World),
 Loc w.heap.size [Blk.mk n 33 [Value.slice ap an ac, Value.slice dp dn dc] 0] w'_1
 W →
 AtL W b (o + x.toNat * 54)
 (arrI IntKind.u8 f 32 0 ++ (arrI IntKind.u8 f_1 16 0 ++ [Value.string x_3, Value.int IntKind.i64 x_4, Value.bool x_5, Value.bool x_6,
 Value.slice p_2 n_3 c_2, Value.string x_7]))) ∧
 nn (decide (x_2 > 0)) p fun (b o : Nat) =>
 gimp (decide (x_2 > 0))
 (0 ≤ IntKind.i64.wrap (x_2 - 1) ∧ IntKind.i64.wrap (x_2 - 1) < (↑n_1 : Int)) ∧
 ∃ (f_2 : Nat → Int),
 ∃ (f_3 : Nat → Int),
 ∃ (x_8 : ByteArray),
 ∃ (x_9 : Int),
 ∃ (x_10 : Bool),
 ∃ (x_11 : Bool),
 ∃ (p_3 : Option Addr),
 ∃ (n_4 : Nat),
 ∃ (c_3 : Nat),
 ∃ (x_12 : ByteArray),
 gimp (decide (x_2 > 0))
 (∀ (W : World),
 Loc w.heap.size
 [Blk.mk n 33 [Value.slice ap an ac, Value.slice dp dn dc] 0] w'_1
 W →
 AtL W b (o + (IntKind.i64.wrap (x_2 - 1)).toNat * 54)
 (arrI IntKind.u8 f_2 32 0 ++ (arrI IntKind.u8 f_3 16 0 ++ [Value.string x_8, Value.int IntKind.i64 x_9, Value.bool x_10,
 Value.bool x_11, Value.slice p_3 n_4 c_3, Value.string x_12]))) ∧
 ∀ (W : World),
 Loc w.heap.size
 [Blk.mk n 33 [Value.slice ap an ac, Value.slice dp dn dc] 0] w'_1
 W →
 bsp (decide (x_2 > 0))
 (CallsS Tryz.prog 58
 #[Value.agg
 (arrI IntKind.u8 f 32 0 ++ (arrI IntKind.u8 f_1 16 0 ++ [Value.string x_3, Value.int IntKind.i64 x_4, Value.bool x_5,
 Value.bool x_6, Value.slice p_2 n_3 c_2, Value.string x_7])).toArray,
 Value.agg
 (arrI IntKind.u8 f_2 32 0 ++ (arrI IntKind.u8 f_3 16 0 ++ [Value.string x_8, Value.int IntKind.i64 x_9, Value.bool x_10,
 Value.bool x_11, Value.slice p_3 n_4 c_3, Value.string x_12])).toArray]
 W fun (e : Ending) (w'_2 : World) =>
 ∃ (x_13 : Bool),
 e = Ending.returned (Value.bool x_13) ∧
 KeptL [n] W w'_2 ∧
 bsp (true && x_13)
 (I_1 [Value.int IntKind.i64 (IntKind.i64.wrap (x_2 - 1))]
 w'_2 ∧
 m_1 [Value.int IntKind.i64 (IntKind.i64.wrap (x_2 - 1))]
 w'_2 <
 m_1 [Value.int IntKind.i64 x_2] w'_1)
 (∀ (n_5 : Nat),
 (0 ≤ x_2 ∧ x_2 ≤ (↑c : Int)) ∧
 ∀ (W : World),
 Loc w.heap.size
 [Blk.mk n 33 [Value.slice ap an ac, Value.slice dp dn dc]
 0,
 Blk.mk n_5 50 [] 2]
 w'_2 W →
 ∃ (base : Nat),
 ∃ (xs : List Value),
 ∃ (news : List Value),
 W.ownsRow base 50 54
 (Value.slice (some (Addr.mk n_5 0 none)) 0 0) 0 xs ∧
 news.length = x_2.toNat * 54 ∧
 SrcP W p news ∧
 0 + x_2.toNat ≤ 9223372036854775807 ∧
 (0 + x_2.toNat) * 120 ≤ 140737488355328 ∧
 base ≤ W.heap.size ∧
 ∀ (p' : Option Addr) (c' : Nat) (w'_3 : World),
 w'_3.ownsRow base 50 54
 (Value.slice p' (0 + x_2.toNat) c')
 (0 + x_2.toNat) (xs ++ news) →
 W.grownBy w'_3
 (Value.slice (some (Addr.mk n_5 0 none)) 0
 0).ownBlock →
 (0 + x_2.toNat ≤ 0 →
 p' = some (Addr.mk n_5 0 none) ∧ c' = 0) →
 KeptL [n] W w'_3 ∧
 nn true dp fun (b o : Nat) =>
 (0 ≤ x ∧ x < (↑dn : Int)) ∧
 ∃ (f : Nat → Int),
 ∃ (f_4 : Nat → Int),
 ∃ (x_14 : ByteArray),
 ∃ (x_15 : Int),
 ∃ (x_16 : Bool),
 ∃ (x_17 : Bool),
 ∃ (p_4 : Option Addr),
 ∃ (n_6 : Nat),
 ∃ (c_4 : Nat),
 ∃ (x_18 : ByteArray),
 AtL w'_3 b (o + x.toNat * 54)
 (arrI IntKind.u8 f 32 0 ++ (arrI IntKind.u8 f_4 16 0 ++ [Value.string x_14,
 Value.int IntKind.i64 x_15,
 Value.bool x_16,
 Value.bool x_17,
 Value.slice p_4 n_6 c_4,
 Value.string x_18])) ∧
 ∀ (n_7 : Nat) (W : World),
 Loc w.heap.size
 [Blk.mk n 33
 [Value.slice ap an ac,
 Value.slice dp dn dc]
 0,
 Blk.mk n_7 50
 (arrI IntKind.u8 f 32 0 ++ (arrI IntKind.u8 f_4 16 0 ++ [Value.string x_14,
 Value.int IntKind.i64
 x_15,
 Value.bool x_16,
 Value.bool x_17,
 Value.slice p_4 n_6 c_4,
 Value.string x_18]))
 2]
 w'_3 W →
 ∃ (base : Nat),
 ∃ (xs : List Value),
 W.ownsRow base 50 54
 (Value.slice p'
 (0 + x_2.toNat) c')
 (0 + x_2.toNat) xs ∧
 0 + x_2.toNat + 1 ≤
 9223372036854775807 ∧
 (0 + x_2.toNat + 1) *
 120 ≤
 140737488355328 ∧
 base ≤ W.heap.size ∧
 ∀ (p'_1 : Option Addr)
 (c'_1 : Nat)
 (w'_4 : World),
 w'_4.ownsRow base 50
 54
 (Value.slice p'_1
 (0 + x_2.toNat + 1)
 c'_1)
 (0 + x_2.toNat + 1)
 (xs ++
 (arrI IntKind.u8 f 32 0 ++ (arrI IntKind.u8 f_4 16 0 ++ [Value.string x_14,
 Value.int
 IntKind.i64 x_15,
 Value.bool x_16,
 Value.bool x_17,
 Value.slice p_4
 n_6 c_4,
 Value.string
 x_18]))) →
 W.grownBy w'_4
 (Value.slice p'
 (0 + x_2.toNat)
 c').ownBlock →
 (0 + x_2.toNat + 1 ≤
 c' →
 p'_1 = p' ∧
 c'_1 = c') →
 KeptL [n] W w'_4 ∧
 (0 ≤ x_2 ∧
 x_2 ≤
 (↑n_1 : Int)) ∧
 ∃ (base : Nat),
 ∃ (xs :
 List Value),
 ∃ (news :
 List Value),
 w'_4.ownsRow
 base 50 54
 (Value.slice
 p'_1
 (0 +
 x_2.toNat +
 1)
 c'_1)
 (0 +
 x_2.toNat +
 1)
 xs ∧
 news.length =
 (n_1 -
 x_2.toNat) *
 54 ∧
 SrcP w'_4
 (slA p c
 x_2.toNat
 54)
 news ∧
 0 +
 x_2.toNat +
 1 +
 (n_1 -
 x_2.toNat) ≤
 9223372036854775807 ∧
 (0 +
 x_2.toNat +
 1 +
 (n_1 -
 x_2.toNat)) *
 120 ≤
 140737488355328 ∧
 base ≤
 w'_4.heap.size ∧
 ∀
 (p' :
 Option
 Addr)
 (c' :
 Nat)
 (w'_5 :
 World),
 w'_5.ownsRow
 base
 50 54
 (Value.slice
 p'
 (0 +
 x_2.toNat +
 1 +
 (n_1 -
 x_2.toNat))
 c')
 (0 +
 x_2.toNat +
 1 +
 (n_1 -
 x_2.toNat))
 (xs ++
 news) →
 w'_4.grownBy
 w'_5
 (Value.slice
 p'_1
 (0 +
 x_2.toNat +
 1)
 c'_1).ownBlock →
 (0 +
 x_2.toNat +
 1 +
 (n_1 -
 x_2.toNat) ≤
 c'_1 →
 p' =
 p'_1 ∧
 c' =
 c'_1) →
 KeptL
 [n]
 w'_4
 w'_5 ∧
 I
 [Value.int
 IntKind.i64
 (IntKind.i64.wrap
 (x +
 1)),
 Value.slice
 p'
 (0 +
 x_2.toNat +
 1 +
 (n_1 -
 x_2.toNat))
 c']
 w'_5 ∧
 m
 [Value.int
 IntKind.i64
 (IntKind.i64.wrap
 (x +
 1)),
 Value.slice
 p'
 (0 +
 x_2.toNat +
 1 +
 (n_1 -
 x_2.toNat))
 c']
 w'_5 <
 m
 [Value.int
 IntKind.i64
 x,
 Value.slice
 p
 n_1
 c]
 w'))
 (KeptL [n] W W ∧
 ∀ (n_5 : Nat),
 (0 ≤ x_2 ∧ x_2 ≤ (↑c : Int)) ∧
 ∀ (W_1 : World),
 Loc w.heap.size
 [Blk.mk n 33 [Value.slice ap an ac, Value.slice dp dn dc] 0,
 Blk.mk n_5 50 [] 2]
 W W_1 →
 ∃ (base : Nat),
 ∃ (xs : List Value),
 ∃ (news : List Value),
 W_1.ownsRow base 50 54
 (Value.slice (some (Addr.mk n_5 0 none)) 0 0) 0 xs ∧
 news.length = x_2.toNat * 54 ∧
 SrcP W_1 p news ∧
 0 + x_2.toNat ≤ 9223372036854775807 ∧
 (0 + x_2.toNat) * 120 ≤ 140737488355328 ∧
 base ≤ W_1.heap.size ∧
 ∀ (p' : Option Addr) (c' : Nat) (w'_2 : World),
 w'_2.ownsRow base 50 54
 (Value.slice p' (0 + x_2.toNat) c')
 (0 + x_2.toNat) (xs ++ news) →
 W_1.grownBy w'_2
 (Value.slice (some (Addr.mk n_5 0 none)) 0
 0).ownBlock →
 (0 + x_2.toNat ≤ 0 →
 p' = some (Addr.mk n_5 0 none) ∧ c' = 0) →
 KeptL [n] W_1 w'_2 ∧
 nn true dp fun (b o : Nat) =>
 (0 ≤ x ∧ x < (↑dn : Int)) ∧
 ∃ (f : Nat → Int),
 ∃ (f_4 : Nat → Int),
 ∃ (x_13 : ByteArray),
 ∃ (x_14 : Int),
 ∃ (x_15 : Bool),
 ∃ (x_16 : Bool),
 ∃ (p_4 : Option Addr),
 ∃ (n_6 : Nat),
 ∃ (c_4 : Nat),
 ∃ (x_17 : ByteArray),
 AtL w'_2 b (o + x.toNat * 54)
 (arrI IntKind.u8 f 32 0 ++ (arrI IntKind.u8 f_4 16 0 ++ [Value.string x_13,
 Value.int IntKind.i64 x_14,
 Value.bool x_15, Value.bool x_16,
 Value.slice p_4 n_6 c_4,
 Value.string x_17])) ∧
 ∀ (n_7 : Nat) (W : World),
 Loc w.heap.size
 [Blk.mk n 33
 [Value.slice ap an ac,
 Value.slice dp dn dc]
 0,
 Blk.mk n_7 50
 (arrI IntKind.u8 f 32 0 ++ (arrI IntKind.u8 f_4 16 0 ++ [Value.string x_13,
 Value.int IntKind.i64 x_14,
 Value.bool x_15,
 Value.bool x_16,
 Value.slice p_4 n_6 c_4,
 Value.string x_17]))
 2]
 w'_2 W →
 ∃ (base : Nat),
 ∃ (xs : List Value),
 W.ownsRow base 50 54
 (Value.slice p'
 (0 + x_2.toNat) c')
 (0 + x_2.toNat) xs ∧
 0 + x_2.toNat + 1 ≤
 9223372036854775807 ∧
 (0 + x_2.toNat + 1) * 120 ≤
 140737488355328 ∧
 base ≤ W.heap.size ∧
 ∀ (p'_1 : Option Addr)
 (c'_1 : Nat)
 (w'_3 : World),
 w'_3.ownsRow base 50 54
 (Value.slice p'_1
 (0 + x_2.toNat + 1)
 c'_1)
 (0 + x_2.toNat + 1)
 (xs ++
 (arrI IntKind.u8 f 32 0 ++ (arrI IntKind.u8 f_4 16 0 ++ [Value.string x_13,
 Value.int IntKind.i64
 x_14,
 Value.bool x_15,
 Value.bool x_16,
 Value.slice p_4 n_6
 c_4,
 Value.string x_17]))) →
 W.grownBy w'_3
 (Value.slice p'
 (0 + x_2.toNat)
 c').ownBlock →
 (0 + x_2.toNat + 1 ≤
 c' →
 p'_1 = p' ∧
 c'_1 = c') →
 KeptL [n] W w'_3 ∧
 (0 ≤ x_2 ∧
 x_2 ≤
 (↑n_1 : Int)) ∧
 ∃ (base : Nat),
 ∃ (xs : List Value),
 ∃ (news :
 List Value),
 w'_3.ownsRow base
 50 54
 (Value.slice
 p'_1
 (0 +
 x_2.toNat +
 1)
 c'_1)
 (0 + x_2.toNat +
 1)
 xs ∧
 news.length =
 (n_1 -
 x_2.toNat) *
 54 ∧
 SrcP w'_3
 (slA p c
 x_2.toNat 54)
 news ∧
 0 + x_2.toNat +
 1 +
 (n_1 -
 x_2.toNat) ≤
 9223372036854775807 ∧
 (0 +
 x_2.toNat +
 1 +
 (n_1 -
 x_2.toNat)) *
 120 ≤
 140737488355328 ∧
 base ≤
 w'_3.heap.size ∧
 ∀
 (p' :
 Option
 Addr)
 (c' : Nat)
 (w'_4 :
 World),
 w'_4.ownsRow
 base 50
 54
 (Value.slice
 p'
 (0 +
 x_2.toNat +
 1 +
 (n_1 -
 x_2.toNat))
 c')
 (0 +
 x_2.toNat +
 1 +
 (n_1 -
 x_2.toNat))
 (xs ++
 news) →
 w'_3.grownBy
 w'_4
 (Value.slice
 p'_1
 (0 +
 x_2.toNat +
 1)
 c'_1).ownBlock →
 (0 +
 x_2.toNat +
 1 +
 (n_1 -
 x_2.toNat) ≤
 c'_1 →
 p' =
 p'_1 ∧
 c' =
 c'_1) →
 KeptL
 [n]
 w'_3
 w'_4 ∧
 I
 [Value.int
 IntKind.i64
 (IntKind.i64.wrap
 (x +
 1)),
 Value.slice
 p'
 (0 +
 x_2.toNat +
 1 +
 (n_1 -
 x_2.toNat))
 c']
 w'_4 ∧
 m
 [Value.int
 IntKind.i64
 (IntKind.i64.wrap
 (x +
 1)),
 Value.slice
 p'
 (0 +
 x_2.toNat +
 1 +
 (n_1 -
 x_2.toNat))
 c']
 w'_4 <
 m
 [Value.int
 IntKind.i64
 x,
 Value.slice
 p
 n_1
 c]
 w')))
 (R (Ending.returned (Value.slice p n_1 c)) w')
theorem vc_xvers (ap : Option Addr) (an : Nat) (ac : Nat) (dp : Option Addr) (dn : Nat) (dc : Nat) (s : ByteArray) (w : World) (R : Ending → World → Prop) (h : VC_xvers ap an ac dp dn dc s w R) : Calls Tryz.prog 34 ([Value.agg
    #[Value.slice ap an ac, Value.slice dp dn dc],
  Value.string s] : List Value).toArray w R := by
  have e : execR2 { P := Tryz.prog, loops := [(3, [(6, Ck.int IntKind.i64), (5, Ck.slice)]), (7, [(7, Ck.int IntKind.i64)])], pur := pur1, tails := [(7, 13)], joins := [], boxes := [] } Tryz.f34.results.toList R (Tryz.f34.body.getD .skip) (initF [Value.agg
    #[Value.slice ap an ac, Value.slice dp dn dc],
  Value.string
    s] (Tryz.f34.ntmps - ([Value.agg #[Value.slice ap an ac, Value.slice dp dn dc],
  Value.string s] : List Value).length)) w = VC_xvers ap an ac dp dn dc s w R := by kernel_rfl
  have hb : Tryz.f34.body = some (Tryz.f34.body.getD .skip) := by kernel_rfl
  exact calls_of_exec2' (P := Tryz.prog) (fn := Tryz.f34) (c := Tryz.f34.body.getD .skip) (args := [Value.agg
    #[Value.slice ap an ac, Value.slice dp dn dc],
  Value.string s]) (w := w) (R := R) pur1_ok Tryz.func34 hb e h

def VC_xcur (ap : Option Addr) (an : Nat) (ac : Nat) (dp : Option Addr) (dn : Nat) (dc : Nat) (s : ByteArray) (w : World) (R : Ending → World → Prop) : Prop :=
 ∀ (n n_1 : Nat) (W : World),
 Loc w.heap.size
 [Blk.mk n_1 50
 [Value.int IntKind.u8 0, Value.int IntKind.u8 0, Value.int IntKind.u8 0, Value.int IntKind.u8 0,
 Value.int IntKind.u8 0, Value.int IntKind.u8 0, Value.int IntKind.u8 0, Value.int IntKind.u8 0,
 Value.int IntKind.u8 0, Value.int IntKind.u8 0, Value.int IntKind.u8 0, Value.int IntKind.u8 0,
 Value.int IntKind.u8 0, Value.int IntKind.u8 0, Value.int IntKind.u8 0, Value.int IntKind.u8 0,
 Value.int IntKind.u8 0, Value.int IntKind.u8 0, Value.int IntKind.u8 0, Value.int IntKind.u8 0,
 Value.int IntKind.u8 0, Value.int IntKind.u8 0, Value.int IntKind.u8 0, Value.int IntKind.u8 0,
 Value.int IntKind.u8 0, Value.int IntKind.u8 0, Value.int IntKind.u8 0, Value.int IntKind.u8 0,
 Value.int IntKind.u8 0, Value.int IntKind.u8 0, Value.int IntKind.u8 0, Value.int IntKind.u8 0,
 Value.int IntKind.u8 0, Value.int IntKind.u8 0, Value.int IntKind.u8 0, Value.int IntKind.u8 0,
 Value.int IntKind.u8 0, Value.int IntKind.u8 0, Value.int IntKind.u8 0, Value.int IntKind.u8 0,
 Value.int IntKind.u8 0, Value.int IntKind.u8 0, Value.int IntKind.u8 0, Value.int IntKind.u8 0,
 Value.int IntKind.u8 0, Value.int IntKind.u8 0, Value.int IntKind.u8 0, Value.int IntKind.u8 0,
 Value.string (ByteArray.mk #[]), Value.int IntKind.i64 0, Value.bool false, Value.bool false,
 Value.slice none 0 0, Value.string (ByteArray.mk #[])]
 2,
 Blk.mk n 33 [Value.slice ap an ac, Value.slice dp dn dc] 2]
 w W →
 CallsS Tryz.prog 34 #[Value.agg #[Value.slice ap an ac, Value.slice dp dn dc], Value.string s] W
 fun (e : Ending) (w' : World) =>
 ∃ (p : Option Addr),
 ∃ (n_2 : Nat),
 ∃ (c : Nat),
 e = Ending.returned (Value.slice p n_2 c) ∧
 KeptL [n_1, n] W w' ∧
 nn (!(↑n_2 : Int) == 0) p fun (b o : Nat) =>
 gimp (!(↑n_2 : Int) == 0) ((0 : Int) ≤ 0 ∧ 0 < (↑n_2 : Int)) ∧
 ∃ (x : Bool),
 gimp (!(↑n_2 : Int) == 0) (w'.cell? (Addr.mk b (o + 50) none) = some (Value.bool x)) ∧
 bsp ((↑n_2 : Int) == 0 || x)
 (∀ (W : World),
 Loc w.heap.size
 [Blk.mk n_1 50
 [Value.int IntKind.u8 0, Value.int IntKind.u8 0, Value.int IntKind.u8 0, Value.int IntKind.u8 0,
 Value.int IntKind.u8 0, Value.int IntKind.u8 0, Value.int IntKind.u8 0, Value.int IntKind.u8 0,
 Value.int IntKind.u8 0, Value.int IntKind.u8 0, Value.int IntKind.u8 0, Value.int IntKind.u8 0,
 Value.int IntKind.u8 0, Value.int IntKind.u8 0, Value.int IntKind.u8 0, Value.int IntKind.u8 0,
 Value.int IntKind.u8 0, Value.int IntKind.u8 0, Value.int IntKind.u8 0, Value.int IntKind.u8 0,
 Value.int IntKind.u8 0, Value.int IntKind.u8 0, Value.int IntKind.u8 0, Value.int IntKind.u8 0,
 Value.int IntKind.u8 0, Value.int IntKind.u8 0, Value.int IntKind.u8 0, Value.int IntKind.u8 0,
 Value.int IntKind.u8 0, Value.int IntKind.u8 0, Value.int IntKind.u8 0, Value.int IntKind.u8 0,
 Value.int IntKind.u8 0, Value.int IntKind.u8 0, Value.int IntKind.u8 0, Value.int IntKind.u8 0,
 Value.int IntKind.u8 0, Value.int IntKind.u8 0, Value.int IntKind.u8 0, Value.int IntKind.u8 0,
 Value.int IntKind.u8 0, Value.int IntKind.u8 0, Value.int IntKind.u8 0, Value.int IntKind.u8 0,
 Value.int IntKind.u8 0, Value.int IntKind.u8 0, Value.int IntKind.u8 0, Value.int IntKind.u8 0,
 Value.string (ByteArray.mk #[]), Value.int IntKind.i64 0, Value.bool false, Value.bool false,
 Value.slice none 0 0, Value.string (ByteArray.mk #[])]
 (wrM 0),
 Blk.mk n 33 [Value.slice ap an ac, Value.slice dp dn dc] 0]
 w' W →
 R
 (Ending.returned
 (Value.tuple
 #[Value.agg
 #[Value.int IntKind.u8 0, Value.int IntKind.u8 0, Value.int IntKind.u8 0, Value.int IntKind.u8 0,
 Value.int IntKind.u8 0, Value.int IntKind.u8 0, Value.int IntKind.u8 0, Value.int IntKind.u8 0,
 Value.int IntKind.u8 0, Value.int IntKind.u8 0, Value.int IntKind.u8 0, Value.int IntKind.u8 0,
 Value.int IntKind.u8 0, Value.int IntKind.u8 0, Value.int IntKind.u8 0, Value.int IntKind.u8 0,
 Value.int IntKind.u8 0, Value.int IntKind.u8 0, Value.int IntKind.u8 0, Value.int IntKind.u8 0,
 Value.int IntKind.u8 0, Value.int IntKind.u8 0, Value.int IntKind.u8 0, Value.int IntKind.u8 0,
 Value.int IntKind.u8 0, Value.int IntKind.u8 0, Value.int IntKind.u8 0, Value.int IntKind.u8 0,
 Value.int IntKind.u8 0, Value.int IntKind.u8 0, Value.int IntKind.u8 0, Value.int IntKind.u8 0,
 Value.int IntKind.u8 0, Value.int IntKind.u8 0, Value.int IntKind.u8 0, Value.int IntKind.u8 0,
 Value.int IntKind.u8 0, Value.int IntKind.u8 0, Value.int IntKind.u8 0, Value.int IntKind.u8 0,
 Value.int IntKind.u8 0, Value.int IntKind.u8 0, Value.int IntKind.u8 0, Value.int IntKind.u8 0,
 Value.int IntKind.u8 0, Value.int IntKind.u8 0, Value.int IntKind.u8 0, Value.int IntKind.u8 0,
 Value.string (ByteArray.mk #[]), Value.int IntKind.i64 0, Value.bool false, Value.bool false,
 Value.slice none 0 0, Value.string (ByteArray.mk #[])],
 Value.bool false]))
 W)
 (nn true p fun (b o : Nat) =>
 ((0 : Int) ≤ 0 ∧ 0 < (↑n_2 : Int)) ∧
 ∃ (f : Nat → Int),
 ∃ (f_1 : Nat → Int),
 ∃ (x : ByteArray),
 ∃ (x_1 : Int),
 ∃ (x_2 : Bool),
 ∃ (x_3 : Bool),
 ∃ (p : Option Addr),
 ∃ (n_3 : Nat),
 ∃ (c : Nat),
 ∃ (x_4 : ByteArray),
 AtL w' b o
 (arrI IntKind.u8 f 32 0 ++ (arrI IntKind.u8 f_1 16 0 ++ [Value.string x, Value.int IntKind.i64 x_1, Value.bool x_2, Value.bool x_3,
 Value.slice p n_3 c, Value.string x_4])) ∧
 ∀ (W : World),
 Loc w.heap.size
 [Blk.mk n_1 50
 (arrI IntKind.u8 f 32 0 ++ (arrI IntKind.u8 f_1 16 0 ++ [Value.string x, Value.int IntKind.i64 x_1,
 Value.bool x_2, Value.bool x_3, Value.slice p n_3 c, Value.string x_4]))
 (wrM 0),
 Blk.mk n 33 [Value.slice ap an ac, Value.slice dp dn dc] 0]
 w' W →
 R
 (Ending.returned
 (Value.tuple
 #[Value.agg
 (arrI IntKind.u8 f 32 0 ++ (arrI IntKind.u8 f_1 16 0 ++ [Value.string x,
 Value.int IntKind.i64 x_1, Value.bool x_2, Value.bool x_3, Value.slice p n_3 c,
 Value.string x_4])).toArray,
 Value.bool true]))
 W)
theorem vc_xcur (ap : Option Addr) (an : Nat) (ac : Nat) (dp : Option Addr) (dn : Nat) (dc : Nat) (s : ByteArray) (w : World) (R : Ending → World → Prop) (h : VC_xcur ap an ac dp dn dc s w R) : Calls Tryz.prog 30 ([Value.agg
    #[Value.slice ap an ac, Value.slice dp dn dc],
  Value.string s] : List Value).toArray w R := by
  have e : execR2 { P := Tryz.prog, loops := [], pur := pur1, tails := [], joins := [], boxes := [] } Tryz.f30.results.toList R (Tryz.f30.body.getD .skip) (initF [Value.agg
    #[Value.slice ap an ac, Value.slice dp dn dc],
  Value.string
    s] (Tryz.f30.ntmps - ([Value.agg #[Value.slice ap an ac, Value.slice dp dn dc],
  Value.string s] : List Value).length)) w = VC_xcur ap an ac dp dn dc s w R := by kernel_rfl
  have hb : Tryz.f30.body = some (Tryz.f30.body.getD .skip) := by kernel_rfl
  exact calls_of_exec2' (P := Tryz.prog) (fn := Tryz.f30) (c := Tryz.f30.body.getD .skip) (args := [Value.agg
    #[Value.slice ap an ac, Value.slice dp dn dc],
  Value.string s]) (w := w) (R := R) pur1_ok Tryz.func30 hb e h

def VC_xever (ap : Option Addr) (an : Nat) (ac : Nat) (dp : Option Addr) (dn : Nat) (dc : Nat) (s : ByteArray) (a : Nat → Int) (w : World) (R : Ending → World → Prop) : Prop :=
 ∀ (n n_1 : Nat) (W : World),
 Loc w.heap.size
 [Blk.mk n_1 23
 (arrI IntKind.u8 a 16 0)
 2,
 Blk.mk n 33 [Value.slice ap an ac, Value.slice dp dn dc] 2]
 w W →
 ∃ (I : List Value → World → Prop),
 ∃ (m : List Value → World → Nat),
 I [Value.int IntKind.i64 0] W ∧
 ∀ (x : Int) (w' : World),
 I [Value.int IntKind.i64 x] w' →
 Loc w.heap.size
 [Blk.mk n_1 23
 (arrI IntKind.u8 a 16 0)
 0,
 Blk.mk n 33 [Value.slice ap an ac, Value.slice dp dn dc] 0]
 w' w' →
 bsp (decide (x < (↑dn : Int)))
 (∃ (I_1 : List Value → World → Prop),
 ∃ (m_1 : List Value → World → Nat),
 I_1 [Value.int IntKind.i64 0] w' ∧
 ∀ (x_1 : Int) (w'_1 : World),
 I_1 [Value.int IntKind.i64 x_1] w'_1 →
 Loc w.heap.size
 [Blk.mk n_1 23
 (arrI IntKind.u8 a 16 0)
 0,
 Blk.mk n 33 [Value.slice ap an ac, Value.slice dp dn dc] 0]
 w'_1 w'_1 →
 nn true dp fun (b o : Nat) =>
 (0 ≤ x ∧ x < (↑dn : Int)) ∧
 ∃ (p : Option Addr),
 ∃ (n_2 : Nat),
 ∃ (c : Nat),
 w'_1.cell? (Addr.mk b (o + x.toNat * 54 + 52) none) = some (Value.slice p n_2 c) ∧
 bsp (decide (x_1 < (↑n_2 : Int)))
 (nn true dp fun (b o : Nat) =>
 (0 ≤ x ∧ x < (↑dn : Int)) ∧
 ∃ (x_2 : ByteArray),
 (∀ (W : World),
 Loc w.heap.size
 [Blk.mk n_1 23
 (arrI IntKind.u8 a 16 0)
 0,
 Blk.mk n 33 [Value.slice ap an ac, Value.slice dp dn dc] 0]
 w'_1 W →
 W.cell? (Addr.mk b (o + x.toNat * 54 + 48) none) = some (Value.string x_2)) ∧
 ∃ (p : Option Addr),
 ∃ (n_3 : Nat),
 ∃ (c : Nat),
 gimp (x_2.toList == s.toList)
 (∀ (W : World),
 Loc w.heap.size
 [Blk.mk n_1 23
 (arrI IntKind.u8 a 16 0)
 0,
 Blk.mk n 33 [Value.slice ap an ac, Value.slice dp dn dc] 0]
 w'_1 W →
 W.cell? (Addr.mk n (0 + 1) none) = some (Value.slice p n_3 c)) ∧
 nn (x_2.toList == s.toList) p fun (b o : Nat) =>
 gimp (x_2.toList == s.toList) (0 ≤ x ∧ x < (↑n_3 : Int)) ∧
 ∃ (p : Option Addr),
 ∃ (n_4 : Nat),
 ∃ (c : Nat),
 gimp (x_2.toList == s.toList)
 (∀ (W : World),
 Loc w.heap.size
 [Blk.mk n_1 23
 (arrI IntKind.u8 a 16 0)
 0,
 Blk.mk n 33 [Value.slice ap an ac, Value.slice dp dn dc] 0]
 w'_1 W →
 W.cell? (Addr.mk b (o + x.toNat * 54 + 52) none) = some (Value.slice p n_4 c)) ∧
 nn (x_2.toList == s.toList) p fun (b o : Nat) =>
 gimp (x_2.toList == s.toList) (0 ≤ x_1 ∧ x_1 < (↑n_4 : Int)) ∧
 ∃ (f : Nat → Int),
 gimp (x_2.toList == s.toList)
 (∀ (W : World),
 Loc w.heap.size
 [Blk.mk n_1 23
 (arrI IntKind.u8 a 16 0)
 0,
 Blk.mk n 33 [Value.slice ap an ac, Value.slice dp dn dc] 0]
 w'_1 W →
 AtL W b (o + x_1.toNat * 16)
 (arrI IntKind.u8 f 16 0)) ∧
 ∃ (r : Bool),
 gimp (x_2.toList == s.toList)
 (EqP Tryz.prog 23
 (Value.agg
 (arrI IntKind.u8 f 16 0).toArray)
 (Value.agg
 (arrI IntKind.u8 a 16 0).toArray)
 r) ∧
 bsp (x_2.toList == s.toList && r)
 (∀ (W : World),
 Loc w.heap.size
 [Blk.mk n_1 23
 (arrI IntKind.u8 a 16 0)
 0,
 Blk.mk n 33 [Value.slice ap an ac, Value.slice dp dn dc] 0]
 w'_1 W →
 R (Ending.returned (Value.bool true)) W)
 (∀ (W : World),
 Loc w.heap.size
 [Blk.mk n_1 23
 (arrI IntKind.u8 a 16 0)
 0,
 Blk.mk n 33 [Value.slice ap an ac, Value.slice dp dn dc] 0]
 w'_1 W →
 I_1 [Value.int IntKind.i64 (IntKind.i64.wrap (x_1 + 1))] W ∧
 m_1 [Value.int IntKind.i64 (IntKind.i64.wrap (x_1 + 1))] W <
 m_1 [Value.int IntKind.i64 x_1] w'_1))
 (I [Value.int IntKind.i64 (IntKind.i64.wrap (x + 1))] w'_1 ∧
 m [Value.int IntKind.i64 (IntKind.i64.wrap (x + 1))] w'_1 < m [Value.int IntKind.i64 x] w'))
 (R (Ending.returned (Value.bool false)) w')
theorem vc_xever (ap : Option Addr) (an : Nat) (ac : Nat) (dp : Option Addr) (dn : Nat) (dc : Nat) (s : ByteArray) (a : Nat → Int) (w : World) (R : Ending → World → Prop) (h : VC_xever ap an ac dp dn dc s a w R) : Calls Tryz.prog 21 ([Value.agg
    #[Value.slice ap an ac, Value.slice dp dn dc],
  Value.string s, Value.agg (arrI IntKind.u8 a 16 0).toArray] : List Value).toArray w R := by
  have e : execR2 { P := Tryz.prog, loops := [(2, [(7, Ck.int IntKind.i64)]), (5, [(8, Ck.int IntKind.i64)])], pur := pur1, tails := [], joins := [], boxes := [] } Tryz.f21.results.toList R (Tryz.f21.body.getD .skip) (initF [Value.agg
    #[Value.slice ap an ac, Value.slice dp dn dc],
  Value.string s,
  Value.agg
    (arrI IntKind.u8 a 16
        0).toArray] (Tryz.f21.ntmps - ([Value.agg #[Value.slice ap an ac, Value.slice dp dn dc], Value.string s,
  Value.agg
    (arrI IntKind.u8 a 16 0).toArray] : List Value).length)) w = VC_xever ap an ac dp dn dc s a w R := by kernel_rfl
  have hb : Tryz.f21.body = some (Tryz.f21.body.getD .skip) := by kernel_rfl
  exact calls_of_exec2' (P := Tryz.prog) (fn := Tryz.f21) (c := Tryz.f21.body.getD .skip) (args := [Value.agg
    #[Value.slice ap an ac, Value.slice dp dn dc],
  Value.string s, Value.agg (arrI IntKind.u8 a 16 0).toArray]) (w := w) (R := R) pur1_ok Tryz.func21 hb e h

end Go.Proofs.YtkkfnlehlkiejaaGreatDoor

/- The formulas of functions by the symbolic evaluator, and that each gives the call's contract. Written by a program (gen.py). No condition. -/
namespace Go.Proofs.YtkkfnlehlkiejaaGreatDoor
set_option maxRecDepth 100000
set_option linter.unusedVariables false

def VC_lrmods (ap : Option Addr) (an : Nat) (ac : Nat) (op : Option Addr) (on : Nat) (oc : Nat) (id : Nat → Int) (au : Nat → Int) (g : ByteArray) (v : Int) (rm : Bool) (md : Bool) (p : Option Addr) (n : Nat) (c : Nat) (t : ByteArray) (s : ByteArray) (a : Nat → Int) (w : World) (R : Ending → World → Prop) : Prop :=
 ∀ (n_1 n_2 n_3 : Nat) (W : World),
 Loc w.heap.size
 [Blk.mk n_3 23
 (arrI IntKind.u8 a 16 0)
 2,
 Blk.mk n_2 50
 (arrI IntKind.u8 id 32 0 ++ (arrI IntKind.u8 au 16 0 ++ [Value.string g,
 Value.int IntKind.i64 v, Value.bool rm, Value.bool md, Value.slice p n c, Value.string t]))
 2,
 Blk.mk n_1 42 [Value.slice ap an ac, Value.slice op on oc] 2]
 w W →
 CallsS Tryz.prog 18 #[Value.agg #[Value.slice ap an ac, Value.slice op on oc]] W fun (e : Ending) (w' : World) =>
 ∃ (x : Option Addr),
 ∃ (p_1 : Option Addr),
 ∃ (n_4 : Nat),
 ∃ (c_1 : Nat),
 ∃ (p_2 : Option Addr),
 ∃ (n_5 : Nat),
 ∃ (c_2 : Nat),
 ∃ (x_1 : Bool),
 e =
 Ending.returned
 (Value.tuple
 #[Value.pointer x, Value.agg #[Value.slice p_1 n_4 c_1, Value.slice p_2 n_5 c_2], Value.bool x_1]) ∧
 KeptL [n_3, n_2, n_1] W w' ∧
 ∀ (n_6 : Nat) (W : World),
 Loc w.heap.size
 [Blk.mk n_6 33 [Value.slice p_1 n_4 c_1, Value.slice p_2 n_5 c_2] (wrM 2),
 Blk.mk n_3 23
 (arrI IntKind.u8 a 16 0)
 0,
 Blk.mk n_2 50
 (arrI IntKind.u8 id 32 0 ++ (arrI IntKind.u8 au 16 0 ++ [Value.string g, Value.int IntKind.i64 v, Value.bool rm, Value.bool md, Value.slice p n c,
 Value.string t]))
 0,
 Blk.mk n_1 42 [Value.slice ap an ac, Value.slice op on oc] 0]
 w' W →
 bsp (!(!x_1 || x.isNone))
 (CallsS Tryz.prog 15 #[] W fun (e : Ending) (w' : World) =>
 ∃ (x_2 : Bool),
 e = Ending.returned (Value.bool x_2) ∧
 KeptL [n_6, n_3, n_2, n_1] W w' ∧
 bsp (false || !x_2)
 (bsp x_1
 (CallsS Tryz.prog 15 #[] w' fun (e : Ending) (w'_1 : World) =>
 ∃ (x : Bool),
 e = Ending.returned (Value.bool x) ∧
 KeptL [n_6, n_3, n_2, n_1] w' w'_1 ∧ R (Ending.returned (Value.bool (true && x))) w'_1)
 (KeptL [n_6, n_3, n_2, n_1] w' w' ∧ R (Ending.returned (Value.bool false)) w'))
 (CallsS Tryz.prog 20
 #[Value.pointer x, Value.string s,
 Value.agg
 (arrI IntKind.u8 a 16 0).toArray]
 w' fun (e : Ending) (w'_1 : World) =>
 ∃ (x_3 : Bool),
 e = Ending.returned (Value.bool x_3) ∧
 KeptL [n_6, n_3, n_2, n_1] w' w'_1 ∧
 CallsS Tryz.prog 21
 #[Value.agg #[Value.slice p_1 n_4 c_1, Value.slice p_2 n_5 c_2], Value.string s,
 Value.agg
 (arrI IntKind.u8 a 16 0).toArray]
 w'_1 fun (e : Ending) (w' : World) =>
 ∃ (x_4 : Bool),
 e = Ending.returned (Value.bool x_4) ∧
 KeptL [n_6, n_3, n_2, n_1] w'_1 w' ∧
 bsp (!x_3 == x_4) (R (Ending.returned (Value.bool false)) w')
 (CallsS Tryz.prog 23
 #[Value.agg
 (arrI IntKind.u8 id 32 0 ++ (arrI IntKind.u8 au 16 0 ++ [Value.string g, Value.int IntKind.i64 v, Value.bool rm,
 Value.bool md, Value.slice p n c, Value.string t])).toArray]
 w' fun (e : Ending) (w'_2 : World) =>
 ∃ (f : Nat → Int),
 ∃ (f_1 : Nat → Int),
 ∃ (x_5 : ByteArray),
 ∃ (x_6 : Int),
 ∃ (x_7 : Bool),
 ∃ (x_8 : Bool),
 ∃ (p : Option Addr),
 ∃ (n : Nat),
 ∃ (c : Nat),
 ∃ (x_9 : ByteArray),
 e =
 Ending.returned
 (Value.agg
 (arrI IntKind.u8 f 32 0 ++ (arrI IntKind.u8 f_1 16 0 ++ [Value.string x_5, Value.int IntKind.i64 x_6, Value.bool x_7,
 Value.bool x_8, Value.slice p n c, Value.string x_9])).toArray) ∧
 KeptL [n_6, n_3, n_2, n_1] w' w'_2 ∧
 CallsS Tryz.prog 22
 #[Value.pointer x,
 Value.agg
 (arrI IntKind.u8 f 32 0 ++ (arrI IntKind.u8 f_1 16 0 ++ [Value.string x_5, Value.int IntKind.i64 x_6, Value.bool x_7,
 Value.bool x_8, Value.slice p n c, Value.string x_9])).toArray]
 w'_2 fun (e : Ending) (w' : World) =>
 ∃ (x_10 : Int),
 e = Ending.returned (Value.int IntKind.i64 x_10) ∧
 KeptL [n_6, n_3, n_2, n_1] w'_2 w' ∧
 bsp (!!x_3)
 (CallsS Tryz.prog 20
 #[Value.pointer x, Value.string s,
 Value.agg
 (arrI IntKind.u8 a 16 0).toArray]
 w' fun (e : Ending) (w'_3 : World) =>
 ∃ (x : Bool),
 e = Ending.returned (Value.bool x) ∧
 KeptL [n_6, n_3, n_2, n_1] w' w'_3 ∧
 R (Ending.returned (Value.bool (false || x))) w'_3)
 (KeptL [n_6, n_3, n_2, n_1] w' w' ∧
 R (Ending.returned (Value.bool true)) w'))))
 (KeptL [n_6, n_3, n_2, n_1] W W ∧
 bsp x_1
 (CallsS Tryz.prog 15 #[] W fun (e : Ending) (w' : World) =>
 ∃ (x : Bool),
 e = Ending.returned (Value.bool x) ∧
 KeptL [n_6, n_3, n_2, n_1] W w' ∧ R (Ending.returned (Value.bool (true && x))) w')
 (KeptL [n_6, n_3, n_2, n_1] W W ∧ R (Ending.returned (Value.bool false)) W))
theorem vc_lrmods (ap : Option Addr) (an : Nat) (ac : Nat) (op : Option Addr) (on : Nat) (oc : Nat) (id : Nat → Int) (au : Nat → Int) (g : ByteArray) (v : Int) (rm : Bool) (md : Bool) (p : Option Addr) (n : Nat) (c : Nat) (t : ByteArray) (s : ByteArray) (a : Nat → Int) (w : World) (R : Ending → World → Prop) (h : VC_lrmods ap an ac op on oc id au g v rm md p n c t s a w R) : Calls Tryz.prog 5 ([Value.agg
    #[Value.slice ap an ac, Value.slice op on oc],
  Value.agg
    (arrI IntKind.u8 id 32 0 ++
        (arrI IntKind.u8 au 16 0 ++
          [Value.string g, Value.int IntKind.i64 v, Value.bool rm, Value.bool md, Value.slice p n c,
            Value.string t])).toArray,
  Value.string s, Value.agg (arrI IntKind.u8 a 16 0).toArray] : List Value).toArray w R := by
  have e : execR2 { P := Tryz.prog, loops := [], pur := pur1, tails := [], joins := [], boxes := [] } Tryz.f5.results.toList R (Tryz.f5.body.getD .skip) (initF [Value.agg
    #[Value.slice ap an ac, Value.slice op on oc],
  Value.agg
    (arrI IntKind.u8 id 32 0 ++
        (arrI IntKind.u8 au 16 0 ++
          [Value.string g, Value.int IntKind.i64 v, Value.bool rm, Value.bool md, Value.slice p n c,
            Value.string t])).toArray,
  Value.string s,
  Value.agg
    (arrI IntKind.u8 a 16
        0).toArray] (Tryz.f5.ntmps - ([Value.agg #[Value.slice ap an ac, Value.slice op on oc],
  Value.agg
    (arrI IntKind.u8 id 32 0 ++
        (arrI IntKind.u8 au 16 0 ++
          [Value.string g, Value.int IntKind.i64 v, Value.bool rm, Value.bool md, Value.slice p n c,
            Value.string t])).toArray,
  Value.string s,
  Value.agg
    (arrI IntKind.u8 a 16
        0).toArray] : List Value).length)) w = VC_lrmods ap an ac op on oc id au g v rm md p n c t s a w R := by kernel_rfl
  have hb : Tryz.f5.body = some (Tryz.f5.body.getD .skip) := by kernel_rfl
  exact calls_of_exec2' (P := Tryz.prog) (fn := Tryz.f5) (c := Tryz.f5.body.getD .skip) (args := [Value.agg
    #[Value.slice ap an ac, Value.slice op on oc],
  Value.agg
    (arrI IntKind.u8 id 32 0 ++
        (arrI IntKind.u8 au 16 0 ++
          [Value.string g, Value.int IntKind.i64 v, Value.bool rm, Value.bool md, Value.slice p n c,
            Value.string t])).toArray,
  Value.string s, Value.agg (arrI IntKind.u8 a 16 0).toArray]) (w := w) (R := R) pur1_ok Tryz.func5 hb e h

end Go.Proofs.YtkkfnlehlkiejaaGreatDoor

/- Chapter 21: the contract of the reference's Ever; RegistryModerators on worlds. No condition but what a reading gives. -/
namespace Go.Proofs.YtkkfnlehlkiejaaGreatDoor
open Go.RowKit Go.Maps

/-- A definition that makes an author a moderator. -/
def evD (d : Df) (s : ByteArray) (a : Nat → Int) : Bool := decide (d.g = s) && decide (auI a ∈ d.ms.map auI)
set_option maxHeartbeats 2000000 in
theorem xever_any (A : List Au) (ap : Option Addr) (ac : Nat) (ds : List DX) (p : Option Addr) (c : Nat) (s : ByteArray) (a : Nat → Int) (w : World) (hR : SR w ds p c) (hl : ds.length ≤ 1000000) (ha : BY a) :
    Calls Tryz.prog 21 #[.agg #[.slice ap A.length ac, .slice p ds.length c], .string s, .agg (arrI .u8 a 16 0).toArray] w fun e w' => e = .returned (.bool (ds.any fun y => evD y.d s a)) ∧ K0 w w' := by
  refine vc_xever ap A.length ac p ds.length c s a w _ (fun n n1 W hW => ?_)
  have kW : K0 w W := hW.kk rfl
  refine ⟨fun vs w' => ∃ i : Nat, vs = [.int .i64 (i : Int)] ∧ i ≤ ds.length ∧ (∀ j y, j < i → ds[j]? = some y → evD y.d s a = false) ∧ K0 w w', fun vs _ => (match vs with | .int _ a :: _ => ds.length - a.toNat | _ => 0), ⟨0, rfl, by omega, (fun j y h => by omega), kW⟩, ?_⟩
  rintro x w1 ⟨i, hv, hi, hno, k1⟩ hL1
  simp only [List.cons.injEq, Value.int.injEq, true_and, and_true] at hv
  subst hv
  refine bsp_intro (fun hlt => ?_) (fun hge => ?_)
  · have hlt : i < ds.length := by simp at hlt; omega
    obtain ⟨y, b, o, hy, hp, hat⟩ := (hR.k0 k1).row.get hlt
    have hym := List.mem_of_getElem? hy
    obtain ⟨z0, _, oy⟩ := hR.ok y hym
    have h8 := (dchk_sz z0).2.2.2.1
    have hms := hR.ms y hym
    refine ⟨fun vs w' => ∃ m : Nat, vs = [.int .i64 (m : Int)] ∧ m ≤ y.d.ms.length ∧ (∀ j z, j < m → y.d.ms[j]? = some z → ¬ (y.d.g = s ∧ auI z = auI a)) ∧ K0 w1 w', fun vs _ => (match vs with | .int _ a :: _ => y.d.ms.length - a.toNat | _ => 0), ⟨0, rfl, by omega, (fun j z h => by omega), .refl _ _⟩, ?_⟩
    rintro x1 w2 ⟨m, hv, hm, hno2, k2⟩ hL2
    simp only [List.cons.injEq, Value.int.injEq, true_and, and_true] at hv
    subst hv
    have hat2 := hat.k0 k2
    have c52 : w2.cell? ⟨b, o + i * 54 + 52, none⟩ = some (.slice y.p y.d.ms.length y.c) := hat2.cell (j := 52) rfl
    have c48 : w2.cell? ⟨b, o + i * 54 + 48, none⟩ = some (.string y.d.g) := hat2.cell (j := 48) rfl
    rw [Int.toNat_natCast]
    refine nn_is hp ⟨⟨by omega, by omega⟩, y.p, y.d.ms.length, y.c, c52, bsp_intro (fun hlt2 => ?_) (fun hge2 => ?_)⟩
    · have hlt2 : m < y.d.ms.length := by simp at hlt2; omega
      obtain ⟨z, b2, o2, hz, hp2, hat3⟩ := (hms.k0 (k1.trans k2)).get hlt2
      have hzb := oy.ms z (List.mem_of_getElem? hz)
      refine nn_is hp ⟨⟨by omega, by omega⟩, y.d.g, fun W3 hW3 => (hW3.kk rfl : K0 w2 W3).cell' c48 (fun h => h), p, ds.length, c, gimp_intro fun _ W3 hW3 => cell_at (hW3.cells 1 rfl) rfl, nn_is hp ⟨gimp_intro fun _ => ⟨by omega, by omega⟩, y.p, y.d.ms.length, y.c, gimp_intro fun _ W3 hW3 => (hW3.kk rfl : K0 w2 W3).cell' c52 (fun h => h), nn_is hp2 ⟨gimp_intro fun _ => ⟨by omega, by omega⟩, z, gimp_intro fun _ W3 hW3 => by rw [Int.toNat_natCast]; exact hat3.k0 (hW3.kk rfl), _, gimp_intro fun _ => auEqR hzb ha, bsp_intro (fun h => fun W3 hW3 => ?_) (fun h => fun W3 hW3 => ?_)⟩⟩⟩
      · rw [str_beq] at h
        simp only [Bool.and_eq_true, decide_eq_true_eq] at h
        have : (ds.any fun y => evD y.d s a) = true := List.any_eq_true.2 ⟨y, hym, by
          unfold evD
          rw [Bool.and_eq_true, decide_eq_true_eq, decide_eq_true_eq]
          exact ⟨h.1, List.mem_map.2 ⟨z, List.mem_of_getElem? hz, h.2⟩⟩⟩
        rw [this]
        exact ⟨rfl, (k1.trans k2).trans (hW3.kk rfl)⟩
      · rw [str_beq] at h
        have h : ¬ (y.d.g = s ∧ auI z = auI a) := fun ⟨h1, h2⟩ => by rw [decide_eq_true h1, decide_eq_true h2] at h; cases h
        refine ⟨⟨m + 1, by rw [inc64 (by omega)], by omega, fun j u hj hu => ?_, k2.trans (hW3.kk rfl)⟩, by rw [inc64 (by omega)]; simp only [Int.toNat_natCast]; omega⟩
        by_cases e : j = m
        · subst e; rw [hz] at hu; cases hu; exact h
        · exact hno2 j u (by omega) hu
    · have hm2 : m = y.d.ms.length := by simp at hge2; omega
      refine ⟨⟨i + 1, by rw [inc64 (by omega)], by omega, fun j u hj hu => ?_, k1.trans k2⟩, by rw [inc64 (by omega)]; simp only [Int.toNat_natCast]; omega⟩
      by_cases e : j = i
      · subst e
        rw [hy] at hu; cases hu
        unfold evD
        refine Bool.eq_false_iff.2 fun h => ?_
        rw [Bool.and_eq_true, decide_eq_true_eq, decide_eq_true_eq] at h
        obtain ⟨z, hz, e⟩ := List.mem_map.1 h.2
        obtain ⟨j2, hj2⟩ := List.getElem?_of_mem hz
        exact hno2 j2 z (by have := (List.getElem?_eq_some_iff.1 hj2).1; omega) hj2 ⟨h.1, e⟩
      · exact hno j u (by omega) hu
  · have hi : i = ds.length := by simp at hge; omega
    have : (ds.any fun y => evD y.d s a) = false := List.any_eq_false.2 fun y hy => by
      obtain ⟨j, hj⟩ := List.getElem?_of_mem hy
      rw [hno j y (by have := (List.getElem?_eq_some_iff.1 hj).1; omega) hj]
      decide
    rw [this]
    exact ⟨rfl, k1⟩
theorem DL.ever {l : List (List Int × DX)} {ds : List DX} (h : DL l ds) (s : ByteArray) (a : Nat → Int) : (l.any fun q => decide (q.2.d.g = s) && decide (auI a ∈ q.2.d.ms.map auI)) = ds.any fun y => evD y.d s a := by
  have e1 : (l.any fun q => decide (q.2.d.g = s) && decide (auI a ∈ q.2.d.ms.map auI)) = (l.map fun q => q.2.d).any fun d => evD d s a := by rw [List.any_map]; rfl
  have e2 : (ds.any fun y => evD y.d s a) = (ds.map fun y => y.d).any fun d => evD d s a := by rw [List.any_map]; rfl
  rw [e1, e2, h.eq]
set_option maxRecDepth 100000 in
set_option maxHeartbeats 4000000 in
theorem lrmods_any (As : List Au) (ap : Option Addr) (ac : Nat) (Os : List OpY) (op : Option Addr) (oc : Nat) (m : DX) (s : ByteArray) (a : Nat → Int) (w : World) (hA : RowA atC 17 w ap As) (hB : ∀ x ∈ As, BY x.au) (hO : RowA opC 55 w op Os) (hR : ∀ x ∈ Os, DfR w x.x) (hm : DfR w m) (ha : BY a) (hG : GW w) :
    Calls Tryz.prog 5 #[.agg #[.slice ap As.length ac, .slice op Os.length oc], dfV m, .string s, .agg (arrI .u8 a 16 0).toArray] w fun e w' => e = .returned (.bool true) ∧ K0 w w' := by
  refine vc_lrmods ap As.length ac op Os.length oc m.d.id m.d.au m.d.g m.d.v m.d.rm m.d.md m.p m.d.ms.length m.c m.d.tx s a w _ (fun n1 n2 n3 W hW => ?_)
  have kW : K0 w W := hW.kk rfl
  have hG' : ∀ {wa : World}, K0 w wa → GW wa := fun k => hG.kp k (fun h => h)
  refine ⟨(lplay_any As ap ac Os op oc W (hA.k0 kW) hB (hO.k0 kW) (fun x hx => (hR x hx).k0 kW) (hG' kW)).mono fun e w1 hQ => ?_⟩
  rcases hQ with ⟨p, k, c, q, m, d, he, k1⟩ | ⟨b, mb, rp, rc, l, ds, dp, dc, he, hI, hOK, h30⟩
  · refine ⟨_, _, _, _, _, _, _, _, he, .of_k0 k1, fun n3 W2 hW2 => bsp_intro (fun h => by simp at h) (fun _ => ?_)⟩
    have k02 := (kW.trans k1).trans (hW2.kk rfl : K0 w1 W2)
    exact ⟨.refl _ _, bsp_intro (fun _ => ⟨(known_any W2 (hG' k02)).mono fun e w3 ⟨he, k3⟩ => ⟨_, he, .of_k0 k3, rfl, k02.trans k3⟩⟩) (fun h => by cases h)⟩
  · refine ⟨_, _, _, _, _, _, _, _, he, .of_k0 hI.k, fun n6 W2 hW2 => bsp_intro (fun _ => ?_) (fun h => by simp at h)⟩
    have k2 : K0 w1 W2 := hW2.kk rfl
    have k02 := (kW.trans hI.k).trans k2
    refine ⟨(known_any W2 (hG' k02)).mono fun e w3 ⟨he, k3⟩ => ⟨_, he, .of_k0 k3, bsp_intro (fun h => by simp at h) (fun _ => ?_)⟩⟩
    have hI3 := hI.k0 (k2.trans k3)
    refine ⟨(rever_any hI3.reg (by omega) s a ha).mono fun e w4 ⟨he, k4⟩ => ⟨_, he, .of_k0 k4, ?_⟩⟩
    have hI4 := hI3.k0 k4
    refine ⟨(xever_any (autL As) rp rc ds dp dc s a w4 hI4.sr (by have := hI.dl.len; omega) ha).mono fun e w5 ⟨he, k5⟩ => ⟨_, he, .of_k0 k5, bsp_intro (fun h => by exfalso; rw [hI.dl.ever] at h; simp at h) (fun _ => ?_)⟩⟩
    have k05 := ((k02.trans k3).trans k4).trans k5
    refine ⟨(lto_any m w5 (hm.row.k0 k05)).mono fun e w6 ⟨⟨q, cq, he, hmo⟩, k6⟩ => ⟨_, _, _, _, _, _, _, _, _, _, he, .of_k0 k6, ?_⟩⟩
    have hI6 := hI4.k0 (k5.trans k6)
    have k06 := k05.trans k6
    refine ⟨(radd_any hI6.reg hOK.len ⟨toD m.d, q, cq⟩ hmo.row (own_le hmo) (toD_OK hm.ok) (hG' k06)).mono fun e w7 ⟨he, hQ⟩ => ?_⟩
    have b1 := hW2.cells 3 rfl
    have b2 := hW2.cells 2 rfl
    have b3 := hW2.cells 1 rfl
    have b6 := hW2.cells 0 rfl
    have k26 := ((k3.trans k4).trans k5).trans k6
    have key : ∃ l', Reg w7 b mb (autL As) l' ∧ l'.length ≤ 31 ∧ ((l.any fun q => decide (q.2.d.g = s) && decide (auI a ∈ q.2.d.ms.map auI)) = true → (l'.any fun q => decide (q.2.d.g = s) && decide (auI a ∈ q.2.d.ms.map auI)) = true) ∧ Kp (· = mb) w6 w7 := by
      rcases hQ with ⟨_, hReg, k7⟩ | ⟨h0, p', c', hReg, _, k7⟩
      · exact ⟨l, hReg, by omega, fun h => h, k7.mono fun _ _ h => h.elim⟩
      · obtain ⟨_, _, z3, _⟩ := addE_zero h0
        rw [aset_new (aget_none.1 z3)] at hReg
        exact ⟨_, hReg, by simp; omega, fun h => by rw [List.any_append, h]; rfl, k7⟩
    obtain ⟨l', hReg, hl', hmon, k7⟩ := key
    have k07 : K0 w w7 := k06.fresh k7 (fun j hj e => by have := hI.gm; have := kW.size; omega)
    obtain ⟨es, cm, hmb, _⟩ := hI6.reg.map.blk
    refine ⟨_, he, .of_kp k7 (fun y hy e => ?_), bsp_intro (fun h => ?_) (fun h => ⟨.refl _ _, rfl, k07⟩)⟩
    · have e : y = mb := e
      subst e
      simp only [List.mem_cons, List.not_mem_nil, or_false] at hy
      rcases hy with hy | hy | hy | hy
      · subst hy; rw [k26.blk b6 (fun h => h)] at hmb; cases hmb
      · subst hy; rw [k26.blk b3 (fun h => h)] at hmb; cases hmb
      · subst hy; rw [k26.blk b2 (fun h => h)] at hmb; cases hmb
      · subst hy; rw [k26.blk b1 (fun h => h)] at hmb; cases hmb
    · rw [Bool.not_not] at h
      refine ⟨(rever_any hReg (by omega) s a ha).mono fun e w8 ⟨he, k8⟩ => ⟨_, he, .of_k0 k8, ?_, k07.trans k8⟩⟩
      rw [hmon h]; rfl

end Go.Proofs.YtkkfnlehlkiejaaGreatDoor
