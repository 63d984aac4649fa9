/- Chapter 21: worlds of authorities and operations: Play. No condition but what a reading gives. -/
import Derived.Test.YtkkfnlehlkiejaaGreatDoorZ06
import Derived.Test.YtkkfnlehlkiejaaGreatDoorZ10
import Derived.Test.YtkkfnlehlkiejaaGreatDoorProg
import Derived.Test.YtkkfnlehlkiejaaGreatDoorZ02
import Derived.Test.YtkkfnlehlkiejaaGreatDoorZ03
import Derived.Test.YtkkfnlehlkiejaaGreatDoorZ05
import Derived.KernelRfl
import Derived.Test.YtkkfnlehlkiejaaGreatDoorZ07
namespace Go.Proofs.YtkkfnlehlkiejaaGreatDoor
open Go.RowKit Go.Maps

/-! ### The reference's list against the map -/
structure DL (l : List (List Int × DX)) (ds : List DX) : Prop where
  eq : ds.map (fun x => x.d) = l.map (fun p => p.2.d)
  key : ∀ p ∈ l, p.1 = idI p.2.d.id
  dis : l.Pairwise fun p q => p.1 ≠ q.1
section
variable {l : List (List Int × DX)} {ds : List DX}
theorem DL.nil : DL [] [] := ⟨rfl, (fun p h => by cases h), .nil⟩
theorem DL.len (h : DL l ds) : ds.length = l.length := by
  have := congrArg List.length h.eq
  simpa using this
theorem DL.at (h : DL l ds) {i : Nat} {y : DX} (hi : ds[i]? = some y) : ∃ x, l[i]? = some (idI y.d.id, x) ∧ x.d = y.d := by
  have h1 := congrArg (fun z => z[i]?) h.eq
  simp only [List.getElem?_map, hi, Option.map_some] at h1
  cases hl : l[i]? with
  | none => rw [hl] at h1; cases h1
  | some p =>
    rw [hl] at h1
    simp only [Option.map_some, Option.some.injEq] at h1
    have hk := h.key p (List.mem_of_getElem? hl)
    obtain ⟨k, x⟩ := p
    simp only at h1 hk
    rw [← h1] at hk
    exact ⟨x, by rw [hk], h1.symm⟩
theorem DL.mem (h : DL l ds) {p : List Int × DX} (hp : p ∈ l) : ∃ y ∈ ds, y.d = p.2.d := by
  have : p.2.d ∈ ds.map (fun x => x.d) := by rw [h.eq]; exact List.mem_map.2 ⟨p, hp, rfl⟩
  obtain ⟨y, hy, e⟩ := List.mem_map.1 this
  exact ⟨y, hy, e⟩
theorem DL.no (h : DL l ds) {a : List Int} (ha : ∀ y ∈ ds, idI y.d.id ≠ a) : aget l a = none := by
  rw [aget_none]
  intro p hp e
  obtain ⟨y, hy, hd⟩ := h.mem hp
  exact ha y hy (by rw [hd, ← h.key p hp]; exact e)
theorem DL.get (h : DL l ds) {i : Nat} {y : DX} (hi : ds[i]? = some y) : ∃ x, aget l (idI y.d.id) = some x ∧ x.d = y.d := by
  obtain ⟨x, h1, h2⟩ := h.at hi
  exact ⟨x, aget_at h.dis (List.mem_of_getElem? h1), h2⟩
theorem DL.any (h : DL l ds) (a : List Int) : ds.any (fun y => decide (idI y.d.id = a)) = (aget l a).isSome := by
  rw [Bool.eq_iff_iff, List.any_eq_true]
  constructor
  · rintro ⟨y, hy, e⟩
    obtain ⟨i, hi⟩ := List.getElem?_of_mem hy
    obtain ⟨x, hx, _⟩ := h.get hi
    have e : idI y.d.id = a := by simpa using e
    rw [← e, hx]; rfl
  · intro hs
    refine Classical.byContradiction fun hn => ?_
    have := h.no (a := a) (fun y hy e => hn ⟨y, hy, by simpa using e⟩)
    rw [this] at hs; cases hs
theorem DL.addE (h : DL l ds) (A : List Au) (d : Df) : xaddE A ds d = addE A l d := by
  unfold xaddE Go.Proofs.YtkkfnlehlkiejaaGreatDoor.addE
  rw [h.any, h.len]
theorem DL.add (h : DL l ds) {x y : DX} (hn : aget l (idI x.d.id) = none) (hd : y.d = x.d) : DL (aset l (idI x.d.id) x) (ds ++ [y]) := by
  rw [aget_none] at hn
  rw [aset_new hn]
  refine ⟨by rw [List.map_append, List.map_append, h.eq]; simp [hd], fun p hp => ?_, ?_⟩
  · rcases List.mem_append.1 hp with hp | hp
    · exact h.key p hp
    · simp at hp; subst hp; rfl
  · rw [List.pairwise_append]
    refine ⟨h.dis, List.pairwise_singleton _ _, fun a ha b hb => ?_⟩
    simp at hb
    subst hb
    exact hn a ha
theorem DL.del (h : DL l ds) {i : Nat} {y : DX} (hi : ds[i]? = some y) : DL (adel l (idI y.d.id)) (ds.eraseIdx i) := by
  obtain ⟨x, h1, h2⟩ := h.at hi
  rw [adel_at h.dis h1]
  refine ⟨by rw [map_erase, map_erase, h.eq], fun p hp => h.key p ((List.eraseIdx_sublist _ _).subset hp), h.dis.sublist (List.eraseIdx_sublist _ _)⟩
theorem addE_zero {A : List Au} {d : Df} (h : addE A l d = 0) : dchk d = 0 ∧ isAu A d.g d.au = true ∧ aget l (idI d.id) = none ∧ l.length < 4096 := by
  unfold addE at h
  split at h
  · exact absurd h (by assumption)
  rename_i h1
  split at h
  · cases h
  rename_i h2
  split at h
  · cases h
  rename_i h3
  split at h
  · cases h
  refine ⟨Classical.byContradiction h1, by simpa using h2, ?_, by omega⟩
  cases hg : aget l (idI d.id) with
  | none => rfl
  | some x => rw [hg] at h3; exact absurd rfl h3
end

/-! ### A box of two slices is written -/
theorem cell_neS {w : World} {g o n1 : Nat} {v : Value} {q1 q2 : Option Addr} {k1 c1 k2 c2 : Nat} {t : TypeId} {z : Nat × Nat} (h : w.cell? ⟨g, o, none⟩ = some v) (hv : ∀ q k c, v ≠ .slice q k c) (hm : w.heap[n1]? = some (.cells #[.slice q1 k1 c1, .slice q2 k2 c2] t z)) : g ≠ n1 := fun e => by
  subst e
  rw [cell_block hm] at h
  have := Array.mem_of_getElem? h
  simp at this
  rcases this with rfl | rfl
  · exact hv _ _ _ rfl
  · exact hv _ _ _ rfl
theorem RowA.kpS {α : Type} {f : α → List Value} {L : Nat} {w w' : World} {p : Option Addr} {l : List α} {n1 : Nat} {q1 q2 : Option Addr} {k1 c1 k2 c2 : Nat} {t : TypeId} {z : Nat × Nat} (h : RowA f L w p l) (hf : ∀ y, ∃ v, (f y)[0]? = some v ∧ ∀ q k c, v ≠ .slice q k c) (hk : Kp (· = n1) w w') (hm : w.heap[n1]? = some (.cells #[.slice q1 k1 c1, .slice q2 k2 c2] t z)) : RowA f L w' p l := fun k y hy => by
  obtain ⟨b, o, h1, h2⟩ := h k y hy
  obtain ⟨v, hv, hn⟩ := hf y
  have hg := cell_neS (h2.cell hv) hn hm
  exact ⟨b, o, h1, ⟨At_of _ _ fun j u hu => hk.cell' (h2.cell hu) (fun e => hg e)⟩⟩
theorem auC_ns (y : Nat → Int) : ∃ v, (auC y)[0]? = some v ∧ ∀ q k c, v ≠ .slice q k c := ⟨.int .u8 (y 0), rfl, fun _ _ _ h => by cases h⟩
theorem atC_ns (y : Au) : ∃ v, (atC y)[0]? = some v ∧ ∀ q k c, v ≠ .slice q k c := ⟨.string y.pt, rfl, fun _ _ _ h => by cases h⟩
theorem dfC_ns (y : DX) : ∃ v, (dfC y)[0]? = some v ∧ ∀ q k c, v ≠ .slice q k c := ⟨.int .u8 (y.d.id 0), rfl, fun _ _ _ h => by cases h⟩
section
variable {w w' : World} {b mb : Nat} {A : List Au} {l : List (List Int × DX)} {n1 : Nat} {q1 q2 : Option Addr} {k1 c1 k2 c2 : Nat}
theorem SR.kpS {ds : List DX} {p : Option Addr} {c : Nat} (h : SR w ds p c) (hk : Kp (· = n1) w w') (hm : w.heap[n1]? = some (.cells #[.slice q1 k1 c1, .slice q2 k2 c2] 33 (0, 0))) : SR w' ds p c :=
  ⟨h.row.kpS dfC_ns hk hm, fun x hx => (h.ms x hx).kpS auC_ns hk hm, h.ok, h.le⟩
theorem Reg.kpS (h : Reg w b mb A l) (hk : Kp (· = n1) w w') (hm : w.heap[n1]? = some (.cells #[.slice q1 k1 c1, .slice q2 k2 c2] 33 (0, 0))) : Reg w' b mb A l := by
  refine ⟨?_, h.map.kp hk (fun e => ?_), fun a x hx => ⟨(h.str a x hx).1.kpS auC_ns hk hm, (h.str a x hx).2⟩, h.ok, h.au⟩
  · obtain ⟨ap, ac, lp, lc, h1, h2, h3⟩ := h.st
    refine ⟨ap, ac, lp, lc, hk.blk h1 (fun e => ?_), h2.kpS atC_ns hk hm, fun k x hx => ?_⟩
    · have e : b = n1 := e
      subst e
      rw [hm] at h1
      simp only [Option.some.injEq, Obj.cells.injEq] at h1
      exact absurd h1.2.1 (by decide)
    · obtain ⟨g, o, lb, es, a1, a2, a3, a4⟩ := h3 k x hx
      refine ⟨g, o, lb, es, a1, hk.cell' a2 (fun e => cell_neS a2 (fun _ _ _ h => by cases h) hm e), a3, a4.kpT hk (fun k c t f e hh => ?_)⟩
      have e : k = n1 := e
      subst e
      rw [hm] at hh
      simp only [Option.some.injEq, Obj.cells.injEq] at hh
      obtain ⟨_, rfl, _⟩ := hh
      decide
  · obtain ⟨es, c, hb, _⟩ := h.map.blk
    have e : mb = n1 := e
    subst e
    rw [hm] at hb; cases hb
end

/-! ### Play -/
/-- An operation. -/
structure OpY where
  dr : Bool
  x : DX
def opC (o : OpY) : List Value := [.bool o.dr] ++ dfC o.x
/-- What Play leaves: a registry and the reference's state that say the same. -/
structure PlayI (w w' : World) (b mb : Nat) (A : List Au) (ap : Option Addr) (ac : Nat) (l : List (List Int × DX)) (ds : List DX) (dp : Option Addr) (dc : Nat) : Prop where
  k : K0 w w'
  gb : w.heap.size ≤ b
  gm : w.heap.size ≤ mb
  reg : Reg w' b mb A l
  row : RowA atC 17 w' ap A
  sr : SR w' ds dp dc
  dl : DL l ds
structure AuOK (A : List Au) : Prop where
  len : A.length ≤ 64
  by_ : ∀ x ∈ A, BY x.au
  sz : ∀ x ∈ A, x.pt.size ≤ 1073741824
  all : ∀ x ∈ A, ∃ es, listR x.pt = .inl es
theorem PlayI.k0 {w w' w2 : World} {b mb : Nat} {A : List Au} {ap : Option Addr} {ac : Nat} {l : List (List Int × DX)} {ds : List DX} {dp : Option Addr} {dc : Nat} (h : PlayI w w' b mb A ap ac l ds dp dc) (hk : K0 w' w2) : PlayI w w2 b mb A ap ac l ds dp dc :=
  ⟨h.k.trans hk, h.gb, h.gm, h.reg.k0 hk, h.row.k0 hk, h.sr.k0 hk, h.dl⟩
def PlayQ (w : World) (A : List Au) (e : Ending) (w' : World) : Prop :=
  (∃ (p : Option Addr) (n c : Nat) (q : Option Addr) (k d : Nat), e = .returned (.tuple #[.pointer none, .agg #[.slice p n c, .slice q k d], .bool true]) ∧ K0 w w') ∨
  ∃ (b mb : Nat) (rp : Option Addr) (rc : Nat) (l : List (List Int × DX)) (ds : List DX) (dp : Option Addr) (dc : Nat), e = .returned (.tuple #[.pointer (some ⟨b, 0, none⟩), .agg #[.slice rp A.length rc, .slice dp ds.length dc], .bool true]) ∧
    PlayI w w' b mb A rp rc l ds dp dc ∧ AuOK A ∧ l.length ≤ 30
set_option maxRecDepth 100000 in
set_option maxHeartbeats 16000000 in
theorem lplay_any (As : List Au) (ap : Option Addr) (ac : Nat) (Os : List OpY) (op : Option Addr) (oc : Nat) (w : World) (hA : RowA atC 17 w ap As) (hB : ∀ x ∈ As, BY x.au) (hO : RowA opC 55 w op Os) (hR : ∀ x ∈ Os, DfR w x.x) (hG : GW w) :
    Calls Tryz.prog 18 #[.agg #[.slice ap As.length ac, .slice op Os.length oc]] w fun e w' => PlayQ w (autL As) e w' := by
  refine vc_lplay ap As.length ac op Os.length oc w _ (fun n n1 W hW => ?_)
  have kW : K0 w W := hW.kk rfl
  have gn1 : w.heap.size ≤ n1 := hW.fresh 0 rfl rfl
  have hne : n1 ≠ n := hW.apart 0 1 rfl rfl (by decide)
  have hb0 : W.heap[n1]? = some (.cells #[.slice none 0 0, .slice none 0 0] 33 (0, 0)) := hW.cells 0 rfl
  have hG' : ∀ {wa : World}, K0 w wa → GW wa := fun k => hG.kp k (fun h => h)
  refine ⟨(lauths_any As ap ac W (hA.k0 kW)).mono fun e w1 ⟨⟨p1, c1, p2, c2, he, hr1, hr2⟩, k1⟩ => ⟨_, _, _, _, _, _, he, .of_k0 k1, ?_⟩⟩
  have hB' := autL_BY hB
  have hS := @autL_sz As
  generalize autL As = A at *
  have k01 := kW.trans k1
  refine ⟨(rnew_any A p1 c1 w1 hr1 hB' hS (hG' k01)).mono fun e w2 ⟨hQ, k2⟩ => ?_⟩
  have k02 := k01.trans k2
  rcases hQ with ⟨h64, he⟩ | ⟨h64, hnz, he⟩ | ⟨h64, hz, b, mb, he, hReg, gb, gm⟩
  · refine ⟨_, _, _, he, .of_k0 k2, ⟨(xnew_any A p2 c2 w2 (hr2.k0 k2) hS).mono fun e w3 ⟨hQ, k3⟩ => ?_⟩⟩
    have k03 := k02.trans k3
    rcases hQ with ⟨_, he⟩ | ⟨h, _⟩ | ⟨h, _⟩
    · refine ⟨_, _, _, _, _, _, _, _, he, .of_k0 k3, bsp_intro (fun h => by simp at h) (fun _ => fun W4 hW4 => ?_)⟩
      have hb4 : W4.heap[n1]? = some (.cells #[.slice none 0 0, .slice none 0 0] 33 (0, 0)) := hW4.cells 0 rfl
      refine ⟨fun vs w' => vs = [.pointer none, .int .i64 0] ∧ w'.heap[n1]? = some (.cells #[.slice none 0 0, .slice none 0 0] 33 (0, 0)) ∧ K0 w w', fun _ _ => 0, ⟨rfl, hb4, hW4.k0 k03⟩, ?_⟩
      rintro x x5 w5 ⟨hv, hb5, k5⟩ hL5
      simp only [List.cons.injEq, Value.pointer.injEq, Value.int.injEq, true_and, and_true] at hv
      obtain ⟨rfl, rfl⟩ := hv
      refine bsp_intro (fun h => by simp at h) (fun _ => ?_)
      refine ⟨none, 0, 0, none, 0, 0, fun W6 hW6 => AtL_block ((hW6.kk rfl : K0 w5 W6).blk hb5 (fun h => h)) rfl, fun W6 hW6 => ⟨WrL_block ((hW6.kk rfl : K0 w5 W6).blk hb5 (fun h => h)) (Nat.le_refl 2), fun w7 p7 => ⟨.of_kp p7.kp (fun y hy e => ?_), none, 0, 0, none, 0, 0, AtL_block (p7.full ((hW6.kk rfl : K0 w5 W6).blk hb5 (fun h => h)) rfl) rfl, .inl ⟨_, _, _, _, _, _, rfl, put_k0 (k5.trans (hW6.kk rfl)) p7 gn1⟩⟩⟩⟩
      simp only [List.mem_cons, List.not_mem_nil, or_false] at hy
      exact hne (e.symm.trans hy)
    · omega
    · omega
  · refine ⟨_, _, _, he, .of_k0 k2, ⟨(xnew_any A p2 c2 w2 (hr2.k0 k2) hS).mono fun e w3 ⟨hQ, k3⟩ => ?_⟩⟩
    have k03 := k02.trans k3
    rcases hQ with ⟨h, _⟩ | ⟨_, _, he⟩ | ⟨_, h, _⟩
    · omega
    · refine ⟨_, _, _, _, _, _, _, _, he, .of_k0 k3, bsp_intro (fun h => by exfalso; simp at h; exact hnz h) (fun _ => fun W4 hW4 => ?_)⟩
      have hb4 : W4.heap[n1]? = some (.cells #[.slice none 0 0, .slice none 0 0] 33 (0, 0)) := hW4.cells 0 rfl
      refine ⟨fun vs w' => vs = [.pointer none, .int .i64 0] ∧ w'.heap[n1]? = some (.cells #[.slice none 0 0, .slice none 0 0] 33 (0, 0)) ∧ K0 w w', fun _ _ => 0, ⟨rfl, hb4, hW4.k0 k03⟩, ?_⟩
      rintro x x5 w5 ⟨hv, hb5, k5⟩ hL5
      simp only [List.cons.injEq, Value.pointer.injEq, Value.int.injEq, true_and, and_true] at hv
      obtain ⟨rfl, rfl⟩ := hv
      refine bsp_intro (fun h => by simp at h) (fun _ => ?_)
      refine ⟨none, 0, 0, none, 0, 0, fun W6 hW6 => AtL_block ((hW6.kk rfl : K0 w5 W6).blk hb5 (fun h => h)) rfl, fun W6 hW6 => ⟨WrL_block ((hW6.kk rfl : K0 w5 W6).blk hb5 (fun h => h)) (Nat.le_refl 2), fun w7 p7 => ⟨.of_kp p7.kp (fun y hy e => ?_), none, 0, 0, none, 0, 0, AtL_block (p7.full ((hW6.kk rfl : K0 w5 W6).blk hb5 (fun h => h)) rfl) rfl, .inl ⟨_, _, _, _, _, _, rfl, put_k0 (k5.trans (hW6.kk rfl)) p7 gn1⟩⟩⟩⟩
      simp only [List.mem_cons, List.not_mem_nil, or_false] at hy
      exact hne (e.symm.trans hy)
    · rw [h] at hnz; exact absurd rfl hnz
  · refine ⟨_, _, _, he, .of_k0 k2, ⟨(xnew_any A p2 c2 w2 (hr2.k0 k2) hS).mono fun e w3 ⟨hQ, k3⟩ => ?_⟩⟩
    have k03 := k02.trans k3
    rcases hQ with ⟨h, _⟩ | ⟨_, h, _⟩ | ⟨_, _, rp, rc, he, hra⟩
    · omega
    · rw [hz] at h; exact absurd rfl h
    refine ⟨_, _, _, _, _, _, _, _, he, .of_k0 k3, bsp_intro (fun h => by simp at h) (fun _ => fun W4 hW4 => ?_)⟩
    have hb3 := ((k1.trans k2).trans k3).blk hb0 (fun h => h)
    have kp4 : Kp (· = n1) w3 W4 := hW4.kp.mono (fun j _ ⟨y, hy, hm, e⟩ => by
      simp only [List.mem_cons, List.not_mem_nil, or_false] at hy
      rcases hy with rfl | rfl
      · exact e.symm
      · cases hm)
    have hb4 : W4.heap[n1]? = some (.cells #[.slice rp A.length rc, .slice none 0 0] 33 (0, 0)) := hW4.cells 0 rfl
    have sz1 := k01.size
    have hOK : AuOK A := ⟨h64, hB', hS, newE_all A 0 (by rw [hz])⟩
    have hI4 : PlayI w W4 b mb A rp rc [] [] none 0 := ⟨hW4.k0 k03, by omega, by omega, (hReg.k0 k3).kpS kp4 hb3, hra.kpS atC_ns kp4 hb3, .nil _, .nil⟩
    refine ⟨fun vs w' => ∃ (k : Nat) (l : List (List Int × DX)) (ds : List DX) (dp : Option Addr) (dc : Nat), vs = [.pointer (some ⟨b, 0, none⟩), .int .i64 (k : Int)] ∧ k ≤ Os.length ∧ k ≤ 30 ∧ l.length ≤ k ∧
        w'.heap[n1]? = some (.cells #[.slice rp A.length rc, .slice dp ds.length dc] 33 (0, 0)) ∧ PlayI w w' b mb A rp rc l ds dp dc,
      fun vs _ => (match vs with | [_, .int _ a] => Os.length - a.toNat | _ => 0), ⟨0, [], [], none, 0, rfl, by omega, by omega, by simp, hb4, hI4⟩, ?_⟩
    rintro x x5 w5 ⟨k, l, ds, dp, dc, hv, hk, hk30, hlk, hb5, hI⟩ hL5
    simp only [List.cons.injEq, Value.pointer.injEq, Value.int.injEq, true_and, and_true] at hv
    obtain ⟨rfl, rfl⟩ := hv
    have hdl := hI.dl.len
    refine bsp_intro (fun hlt => ?_) (fun hge => ?_)
    rotate_left
    · refine ⟨rp, A.length, rc, dp, ds.length, dc, fun W6 hW6 => AtL_block ((hW6.kk rfl : K0 w5 W6).blk hb5 (fun h => h)) rfl, fun W6 hW6 => ?_⟩
      have k6 : K0 w5 W6 := hW6.kk rfl
      have hb6 := k6.blk hb5 (fun h => h)
      refine ⟨WrL_block hb6 (Nat.le_refl 2), fun w7 p7 => ⟨.of_kp p7.kp (fun y hy e => ?_), rp, A.length, rc, dp, ds.length, dc, AtL_block (p7.full hb6 rfl) rfl, .inr ⟨b, mb, rp, rc, l, ds, dp, dc, rfl, ?_, hOK, by omega⟩⟩⟩
      · simp only [List.mem_cons, List.not_mem_nil, or_false] at hy
        exact hne (e.symm.trans hy)
      · have hI6 := hI.k0 k6
        exact ⟨put_k0 hI6.k p7 gn1, hI.gb, hI.gm, hI6.reg.kpS p7.kp hb6, hI6.row.kpS atC_ns p7.kp hb6, hI6.sr.kpS p7.kp hb6, hI.dl⟩
    have hlt : k < Os.length ∧ k < 30 := by simp at hlt; omega
    obtain ⟨o, bb, oo, ho, hp, hat⟩ := (hO.k0 hI.k).get hlt.1
    have hD := hR o (List.mem_of_getElem? ho)
    have zx := toD_OK hD.ok
    have lx : (toD o.x.d).ms.length ≤ 10 := by show (o.x.d.ms.take 10).length ≤ 10; rw [List.length_take]; omega
    rw [Int.toNat_natCast]
    have hcb : w5.cell? ⟨bb, oo + k * 55, none⟩ = some (.bool o.dr) := by simpa using hat.cell (j := 0) rfl
    have hcd : AtL w5 bb (oo + k * 55 + 1) (dfC o.x) := ⟨At_of _ _ fun j v hv => by
      have := hat.cell (j := j + 1) (v := v) (by simpa [opC] using hv)
      rw [show oo + k * 55 + (j + 1) = oo + k * 55 + 1 + j by omega] at this
      exact this⟩
    have hm1 : ∀ (m : Nat), m = k + 1 → IntKind.i64.wrap ((k : Int) + 1) = (m : Int) := fun m e => by subst e; exact inc64 (by omega)
    refine nn_is hp ⟨⟨by omega, by omega⟩, o.x.d.id, o.x.d.au, o.x.d.g, o.x.d.v, o.x.d.rm, o.x.d.md, o.x.p, o.x.d.ms.length, o.x.c, o.x.d.tx, hcd, ?_⟩
    refine ⟨(lto_any o.x w5 (hD.row.k0 hI.k)).mono fun e w6 ⟨⟨q, cq, he, hmo⟩, k6⟩ => ⟨_, _, _, _, _, _, _, _, _, _, he, .of_k0 k6, fun n8 => ?_⟩⟩
    have ln1 := block_lt hb5
    have s6 := k6.size
    refine nn_is hp ⟨⟨by omega, by omega⟩, o.dr, fun W7 hW7 => (hW7.kk rfl : K0 w6 W7).cell' (k6.cell' hcb (fun h => h)) (fun h => h), bsp_intro (fun hd => ?_) (fun hd => ?_)⟩
    · refine ⟨rp, A.length, rc, dp, ds.length, dc, fun W7 hW7 => AtL_block ((k6.trans (hW7.kk rfl : K0 w6 W7)).blk hb5 (fun h => h)) rfl, fun W7 hW7 => ?_⟩
      have k7 : K0 w6 W7 := hW7.kk rfl
      have hI7 := hI.k0 (k6.trans k7)
      have hb7 := (k6.trans k7).blk hb5 (fun h => h)
      have hn8 := hW7.cells 1 rfl
      have hn := hW7.cells 0 rfl
      have h8 : n8 ≠ n1 := fun e => by have := hW7.fresh 1 rfl rfl; simp only at this; omega
      refine ⟨(xdrop_any A rp rc ds dp dc (toD o.x.d).id W7 hI7.sr (by omega) zx.id).mono fun e w8 ⟨hQ, k8⟩ => ?_⟩
      have hb8 := k8.blk hb7 (fun h => h)
      rcases hQ with ⟨he, hno⟩ | ⟨i, y, p', c', he, hy, hya, how⟩
      · refine ⟨_, _, _, _, _, _, _, he, .of_k0 k8, WrL_block hb8 (Nat.le_refl 2), fun w9 p9 => ⟨.of_kp p9.kp (fun y hy e => ?_), ?_⟩⟩
        · simp only [List.mem_cons, List.not_mem_nil, or_false] at hy
          have e : y = n1 := e
          rcases hy with hy | hy
          · exact hne (e.symm.trans hy)
          · exact h8 (hy.symm.trans e)
        have hI8 := hI7.k0 k8
        have hb9 := p9.full hb8 rfl
        have hreg9 := hI8.reg.kpS p9.kp hb8
        have hrow9 := hI8.row.kpS atC_ns p9.kp hb8
        have hsr9 := hI8.sr.kpS p9.kp hb8
        have k09 := put_k0 hI8.k p9 gn1
        obtain ⟨es, cm, hmb, _⟩ := hreg9.map.blk
        have hn9 := p9.kp.blk (k8.blk hn (fun h => h)) (fun e => hne e.symm)
        have hn89 := p9.kp.blk (k8.blk hn8 (fun h => h)) (fun e => h8 e)
        refine ⟨(rdrop_any hreg9 _ zx.id).mono fun e w10 ⟨hQ, k10⟩ => ?_⟩
        rcases hQ with ⟨_, he, hReg10⟩ | ⟨h, _⟩
        · refine ⟨_, he, .of_kp k10 (fun y hy e => ?_), bsp_intro (fun h => by simp at h) (fun _ => ⟨⟨k + 1, l, ds, dp, dc, by rw [inc64 (by omega)], hlt.1, hlt.2, by omega, k10.blk hb9 (fun e => ?_), ?_⟩, by rw [inc64 (by omega)]; simp only [Int.toNat_natCast]; omega⟩)⟩
          · have e : y = mb := e
            subst e
            simp only [List.mem_cons, List.not_mem_nil, or_false] at hy
            rcases hy with hy | hy
            · subst hy; rw [hn9] at hmb; cases hmb
            · subst hy; rw [hn89] at hmb; cases hmb
          · have e : n1 = mb := e
            subst e; rw [hb9] at hmb; cases hmb
          · exact ⟨k09.fresh k10 (fun j hj e => by have := hI.gm; omega), hI.gb, hI.gm, hReg10, hrow9.kpM k10 hmb, hsr9.kpM k10 hmb, hI.dl⟩
        · rw [hI.dl.no hno] at h; cases h
      · refine ⟨_, _, _, _, _, _, _, he, .of_k0 k8, WrL_block hb8 (Nat.le_refl 2), fun w9 p9 => ⟨.of_kp p9.kp (fun y hy e => ?_), ?_⟩⟩
        · simp only [List.mem_cons, List.not_mem_nil, or_false] at hy
          have e : y = n1 := e
          rcases hy with hy | hy
          · exact hne (e.symm.trans hy)
          · exact h8 (hy.symm.trans e)
        have hI8 := hI7.k0 k8
        have hb9 := p9.full hb8 rfl
        have hsub : ∀ x ∈ ds.eraseIdx i, x ∈ ds := fun x hx => (List.eraseIdx_sublist _ _).subset hx
        have hsr8 : SR w8 (ds.eraseIdx i) p' c' := .own how (fun x hx => hI8.sr.ms x (hsub x hx)) (fun x hx => hI8.sr.ok x (hsub x hx))
        have hreg9 := hI8.reg.kpS p9.kp hb8
        have hrow9 := hI8.row.kpS atC_ns p9.kp hb8
        have hsr9 := hsr8.kpS p9.kp hb8
        have k09 := put_k0 hI8.k p9 gn1
        obtain ⟨es, cm, hmb, _⟩ := hreg9.map.blk
        have hn9 := p9.kp.blk (k8.blk hn (fun h => h)) (fun e => hne e.symm)
        have hn89 := p9.kp.blk (k8.blk hn8 (fun h => h)) (fun e => h8 e)
        have hdel := hI.dl.del hy
        rw [hya] at hdel
        obtain ⟨x0, hx0, _⟩ := hI.dl.get hy
        rw [hya] at hx0
        refine ⟨(rdrop_any hreg9 _ zx.id).mono fun e w10 ⟨hQ, k10⟩ => ?_⟩
        rcases hQ with ⟨h, _⟩ | ⟨_, he, hReg10⟩
        · rw [hx0] at h; cases h
        · refine ⟨_, he, .of_kp k10 (fun y hy e => ?_), bsp_intro (fun h => by simp at h) (fun _ => ⟨⟨k + 1, adel l (idI (toD o.x.d).id), ds.eraseIdx i, p', c', by rw [inc64 (by omega)], hlt.1, hlt.2, ?_, k10.blk hb9 (fun e => ?_), ?_⟩, by rw [inc64 (by omega)]; simp only [Int.toNat_natCast]; omega⟩)⟩
          · have e : y = mb := e
            subst e
            simp only [List.mem_cons, List.not_mem_nil, or_false] at hy
            rcases hy with hy | hy
            · subst hy; rw [hn9] at hmb; cases hmb
            · subst hy; rw [hn89] at hmb; cases hmb
          · have h1 := hdel.len
            have h2 : (ds.eraseIdx i).length ≤ ds.length := (List.eraseIdx_sublist _ _).length_le
            omega
          · have e : n1 = mb := e
            subst e; rw [hb9] at hmb; cases hmb
          · exact ⟨k09.fresh k10 (fun j hj e => by have := hI.gm; omega), hI.gb, hI.gm, hReg10, hrow9.kpM k10 hmb, hsr9.kpM k10 hmb, hdel⟩
    · intro W7 hW7
      have k7 : K0 w6 W7 := hW7.kk rfl
      have hI7 := hI.k0 (k6.trans k7)
      have hb7 := (k6.trans k7).blk hb5 (fun h => h)
      have hn8 := hW7.cells 1 rfl
      have hn := hW7.cells 0 rfl
      have h8 : n8 ≠ n1 := fun e => by have := hW7.fresh 1 rfl rfl; simp only at this; omega
      have hmo7 := hmo.k0 k7
      refine ⟨fun wx => K0 W7 wx, .refl _ _, rp, A.length, rc, dp, ds.length, dc, fun wx k => AtL_block (k.blk hb7 (fun h => h)) rfl, _, _, _, _, _, _, _, _, _, _, fun wx k => AtL_block (k.blk hn8 (fun h => h)) rfl, ?_⟩
      refine ⟨(lof_any ⟨toD o.x.d, q, cq⟩ W7 hmo7.row (Nat.le_trans lx (by decide))).mono fun e w8 ⟨⟨q2, d2, he, hmr⟩, k8⟩ => ⟨_, _, _, _, _, _, _, _, _, _, he, k8, ?_⟩⟩
      have hI8 := hI7.k0 k8
      refine ⟨(xadd_any A rp rc ds dp dc ⟨toD o.x.d, q2, d2⟩ w8 hI8.row hB' h64 hOK.all hS hI8.sr (by omega) hmr.row zx).mono fun e w9 ⟨hQ, k9⟩ => ?_⟩
      have k79 := k8.trans k9
      have hb9 := k79.blk hb7 (fun h => h)
      have hI9 := hI8.k0 k9
      have hmo9 := hmo7.k0 k79
      have hle := own_le hmo
      have hE := hI.dl.addE A (toD o.x.d)
      rcases hQ with ⟨hnz, he⟩ | ⟨hz2, p', c', he, how⟩
      · refine ⟨_, _, _, _, _, _, _, he, WrL_block hb9 (Nat.le_refl 2), fun w10 p10 => ⟨.of_kp ((k79.mono fun _ _ h => h.elim).trans p10.kp) (fun y hy e => ?_), ?_⟩⟩
        · simp only [List.mem_cons, List.not_mem_nil, or_false] at hy
          have e : y = n1 := e
          rcases hy with hy | hy
          · exact hne (e.symm.trans hy)
          · exact h8 (hy.symm.trans e)
        have hb10 := p10.full hb9 rfl
        have hreg10 := hI9.reg.kpS p10.kp hb9
        have hrow10 := hI9.row.kpS atC_ns p10.kp hb9
        have hsr10 := hI9.sr.kpS p10.kp hb9
        have k010 := put_k0 hI9.k p10 gn1
        have hmo10 := hmo9.row.kpS auC_ns p10.kp hb9
        refine ⟨(radd_any hreg10 h64 ⟨toD o.x.d, q, cq⟩ hmo10 hle zx (hG' k010)).mono fun e w11 ⟨he, hQ⟩ => ?_⟩
        rcases hQ with ⟨_, hReg11, k11⟩ | ⟨h0, _⟩
        · refine ⟨_, he, .of_k0 k11, bsp_intro (fun h => by exfalso; rw [hE] at h; simp at h) (fun _ => ⟨⟨k + 1, l, ds, dp, dc, by rw [inc64 (by omega)], hlt.1, hlt.2, by omega, k11.blk hb10 (fun h => h), ⟨k010.trans k11, hI.gb, hI.gm, hReg11, hrow10.k0 k11, hsr10.k0 k11, hI.dl⟩⟩, by rw [inc64 (by omega)]; simp only [Int.toNat_natCast]; omega⟩)⟩
        · exact absurd (hE.trans h0) hnz
      · refine ⟨_, _, _, _, _, _, _, he, WrL_block hb9 (Nat.le_refl 2), fun w10 p10 => ⟨.of_kp ((k79.mono fun _ _ h => h.elim).trans p10.kp) (fun y hy e => ?_), ?_⟩⟩
        · simp only [List.mem_cons, List.not_mem_nil, or_false] at hy
          have e : y = n1 := e
          rcases hy with hy | hy
          · exact hne (e.symm.trans hy)
          · exact h8 (hy.symm.trans e)
        have h0' : addE A l (toD o.x.d) = 0 := hE.symm.trans hz2
        obtain ⟨z1, _, z3, _⟩ := addE_zero h0'
        have hsr9 : SR w9 (ds ++ [⟨toD o.x.d, q2, d2⟩]) p' c' := .own how (fun x hx => by
          rcases List.mem_append.1 hx with hx | hx
          · exact hI9.sr.ms x hx
          · simp at hx; subst hx; exact hmr.row.k0 k9) (fun x hx => by
          rcases List.mem_append.1 hx with hx | hx
          · exact hI9.sr.ok x hx
          · simp at hx; subst hx; exact ⟨z1, own_le hmr, zx⟩)
        have hb10 := p10.full hb9 rfl
        have hreg10 := hI9.reg.kpS p10.kp hb9
        have hrow10 := hI9.row.kpS atC_ns p10.kp hb9
        have hsr10 := hsr9.kpS p10.kp hb9
        have k010 := put_k0 hI9.k p10 gn1
        have hmo10 := hmo9.row.kpS auC_ns p10.kp hb9
        obtain ⟨es, cm, hmb, _⟩ := hreg10.map.blk
        have hn10 := p10.kp.blk (k79.blk hn (fun h => h)) (fun e => hne e.symm)
        have hn810 := p10.kp.blk (k79.blk hn8 (fun h => h)) (fun e => h8 e)
        refine ⟨(radd_any hreg10 h64 ⟨toD o.x.d, q, cq⟩ hmo10 hle zx (hG' k010)).mono fun e w11 ⟨he, hQ⟩ => ?_⟩
        rcases hQ with ⟨h0, _⟩ | ⟨_, pn, cn, hReg11, _, k11⟩
        · exact absurd h0' h0
        · have hdl' : DL (aset l (idI (toD o.x.d).id) ⟨toD o.x.d, pn, cn⟩) (ds ++ [⟨toD o.x.d, q2, d2⟩]) := hI.dl.add (x := ⟨toD o.x.d, pn, cn⟩) z3 rfl
          refine ⟨_, he, .of_kp k11 (fun y hy e => ?_), bsp_intro (fun h => by exfalso; rw [show addE A l (DX.mk (toD o.x.d) q cq).d = 0 from h0'] at h; simp at h) (fun _ => ⟨⟨k + 1, aset l (idI (toD o.x.d).id) ⟨toD o.x.d, pn, cn⟩, ds ++ [⟨toD o.x.d, q2, d2⟩], p', c', by rw [inc64 (by omega)], hlt.1, hlt.2, ?_, k11.blk hb10 (fun e => ?_), ?_⟩, by rw [inc64 (by omega)]; simp only [Int.toNat_natCast]; omega⟩)⟩
          · have e : y = mb := e
            subst e
            simp only [List.mem_cons, List.not_mem_nil, or_false] at hy
            rcases hy with hy | hy
            · subst hy; rw [hn10] at hmb; cases hmb
            · subst hy; rw [hn810] at hmb; cases hmb
          · have h1 := hdl'.len
            rw [List.length_append] at h1
            simp only [List.length_cons, List.length_nil] at h1
            omega
          · have e : n1 = mb := e
            subst e; rw [hb10] at hmb; cases hmb
          · exact ⟨k010.fresh k11 (fun j hj e => by have := hI.gm; omega), hI.gb, hI.gm, hReg11, hrow10.kpM k11 hmb, hsr10.kpM k11 hmb, hdl'⟩

end Go.Proofs.YtkkfnlehlkiejaaGreatDoor

/- Chapter 21: worlds of authorities and operations as arguments, with their sizes. No condition. -/
namespace Go.Proofs.YtkkfnlehlkiejaaGreatDoor
open Go.ChangeShapes Go.WideShapes Go.ChangeAt Go.RowKit Go.Deep

instance : Inhabited OpY := ⟨⟨false, dxz⟩⟩
section
variable {H : Type} {enc : TypeId × Value → H} {W : World} {base : Nat} {v : Value}
theorem cellsOp21 : Tryz.prog.cellsOf 84 = 55 := by kernel_rfl
theorem cellsW21 : Tryz.prog.cellsOf 42 = 2 := by kernel_rfl
set_option maxRecDepth 100000 in
theorem rw_Op {l : List Value} (hl : l.length = 55) (hr : Rw enc Tryz.prog W 84 l) : ∃ o : OpY, l = opC o ∧ DfR W o.x := by
  obtain ⟨b0, e0⟩ := Rw.bool (cs := (l.drop 0).take 1) (hr.field Tryz.underlying84 (i := 0) rfl) Tryz.underlying4
  obtain ⟨x, e1, hx⟩ := rw_D (l := (l.drop 1).take 54) (by simp [hl]) (hr.field Tryz.underlying84 (i := 1) rfl)
  refine ⟨⟨b0, x⟩, ?_, hx⟩
  have e0 : l.take 1 = [.bool b0] := e0
  rw [List.take_of_length_le (by simp [hl])] at e1
  rw [← List.take_append_drop 1 l, e0, e1]; rfl
set_option maxRecDepth 100000 in
/-- Operations that were read. -/
theorem open_Ops {cs : List Value} (hr : Rw enc Tryz.prog W 40 cs) : ∃ (p : Option Addr) (l : List OpY) (c : Nat), cs = [.slice p l.length c] ∧ RowA opC 55 W p l ∧ ∀ o ∈ l, DfR W o.x := by
  obtain ⟨p, n, c, hcs, hnc, hby, _, hel⟩ := hr.slice Tryz.underlying40 (by rw [cellsOp21]; decide)
  rw [cellsOp21] at hel
  have key : ∀ i, i < n → ∃ y : OpY, (∃ b o, p = some ⟨b, o, none⟩ ∧ AtL W b (o + i * 55) (opC y)) ∧ DfR W y.x := fun i hi => by
    obtain ⟨b, o, cs', hp, hl, hc, hrw⟩ := hel i hi
    obtain ⟨y, e, hy⟩ := rw_Op hl hrw
    subst e
    exact ⟨y, ⟨b, o, hp, ⟨At_of _ _ fun j v hv => hc j v hv⟩⟩, hy⟩
  obtain ⟨l, hlen, hL⟩ := list_of key
  exact ⟨p, l, c, by rw [hlen]; exact hcs, fun k y hy => (hL k y hy).1, fun h hh => by
    obtain ⟨j, hj, e⟩ := List.getElem_of_mem hh
    exact (hL j h (by rw [List.getElem?_eq_getElem hj, e])).2⟩
set_option maxRecDepth 100000 in
theorem openw_W (hv : Value.okWide Tryz.prog W .any base 42 v) (hr : Rw enc Tryz.prog W 42 v.cells.toList) : ∃ (ap : Option Addr) (As : List Au) (ac : Nat) (op : Option Addr) (Os : List OpY) (oc : Nat), v = .agg #[.slice ap As.length ac, .slice op Os.length oc] ∧ RowA atC 17 W ap As ∧ (∀ x ∈ As, BY x.au) ∧ RowA opC 55 W op Os ∧ ∀ o ∈ Os, DfR W o.x := by
  obtain ⟨cs, rfl, hsz⟩ := okWide_struct Tryz.underlying42 hv
  rw [cellsW21] at hsz
  obtain ⟨l⟩ := cs
  have hsz : l.length = 2 := hsz
  match l, hsz with
  | [c0, c1], _ =>
    have hr : Rw enc Tryz.prog W 42 [c0, c1] := hr
    obtain ⟨ap, As, ac, e0, h1, h2⟩ := open_As (cs := [c0]) (hr.field Tryz.underlying42 (i := 0) rfl)
    obtain ⟨op, Os, oc, e1, h3, h4⟩ := open_Ops (cs := [c1]) (hr.field Tryz.underlying42 (i := 1) rfl)
    simp only [List.cons.injEq, and_true] at e0 e1
    subst e0 e1
    exact ⟨ap, As, ac, op, Os, oc, rfl, h1, h2, h3, h4⟩
end

end Go.Proofs.YtkkfnlehlkiejaaGreatDoor

/- The formulas of functions by the symbolic evaluator, and that each gives the call's contract. Written by a program (gen.py). No condition. -/
namespace Go.Proofs.YtkkfnlehlkiejaaGreatDoor
set_option maxRecDepth 100000
set_option linter.unusedVariables false

end Go.Proofs.YtkkfnlehlkiejaaGreatDoor

/- Chapter 21: the contracts of the reference's less, Versions, Current; what is in force. Lists that are not too long. -/
namespace Go.Proofs.YtkkfnlehlkiejaaGreatDoor
open Go.RowKit Go.Maps

/-! ### Plain -/
section
variable {l : List (List Int × DX)} {ds : List DX}
theorem DL.acc (h : DL l ds) (P : Df → Bool) : accL (fun x => P x.d) l = (ds.filter fun y => P y.d).map fun y => y.d := by
  have e1 : accL (fun x => P x.d) l = ((l.map (·.2)).map (fun x : DX => x.d)).filter P := by simp only [accL, List.filter_map, Function.comp_def]
  have e2 : (ds.filter fun y => P y.d).map (fun y => y.d) = (ds.map fun y => y.d).filter P := by rw [List.filter_map]; rfl
  rw [e1, e2, h.eq, List.map_map]; rfl
end
/-! ### The reference -/
end Go.Proofs.YtkkfnlehlkiejaaGreatDoor

/- The formulas of functions by the symbolic evaluator, and that each gives the call's contract. Written by a program (gen.py). No condition. -/
namespace Go.Proofs.YtkkfnlehlkiejaaGreatDoor
set_option maxRecDepth 100000
set_option linter.unusedVariables false

def VC_rclone (x : Option Addr) (w : World) (R : Ending → World → Prop) : Prop :=
 bsp x.isNone (R (Ending.returned (Value.pointer none)) w)
 (∀ (W : World),
 Loc w.heap.size [] w W →
 ∃ (S : World → Prop),
 S W ∧
 nn true x fun (b o : Nat) =>
 ∃ (p : Option Addr),
 ∃ (n : Nat),
 ∃ (c : Nat),
 (∀ (w' : World), S w' → w'.cell? (Addr.mk b o none) = some (Value.slice p n c)) ∧
 nn true x fun (b o : Nat) =>
 ∃ (p_1 : Option Addr),
 ∃ (n_1 : Nat),
 ∃ (c_1 : Nat),
 (∀ (w' : World), S w' → w'.cell? (Addr.mk b (o + 1) none) = some (Value.slice p_1 n_1 c_1)) ∧
 (CallsS Tryz.prog 44 #[Value.slice p n c] W fun (e : Ending) (w' : World) =>
 ∃ (p : Option Addr),
 ∃ (n : Nat),
 ∃ (c : Nat),
 e = Ending.returned (Value.slice p n c) ∧
 S w' ∧
 (CallsS Tryz.prog 65 #[Value.slice p_1 n_1 c_1] w' fun (e : Ending) (w' : World) =>
 ∃ (p_2 : Option Addr),
 ∃ (n_2 : Nat),
 ∃ (c_2 : Nat),
 e = Ending.returned (Value.slice p_2 n_2 c_2) ∧
 ∀ (n_3 : Nat) (w1 : World),
 NewB w' (Obj.map #[] 0) n_3 w1 →
 S w1 ∧
 ∀ (n_4 : Nat) (w1_1 : World),
 NewB w1
 (Obj.cells #[Value.slice p n c, Value.slice p_2 n_2 c_2, Value.map (some n_3)] 99) n_4
 w1_1 →
 KeptL [] W w1_1 ∧
 nn true x fun (b o : Nat) =>
 ∃ (x : Option Nat),
 w1_1.cell? (Addr.mk b (o + 2) none) = some (Value.map x) ∧
 ∃ (n : Nat),
 ∃ (w1 : World),
 RngP Tryz.prog 96 (Value.map x) n w1_1 w1 ∧
 KeptL [] w1_1 w1 ∧
 ∃ (I : List Value → World → Prop),
 ∃ (m : List Value → World → Nat),
 I [] w1 ∧
 ∀ (w' : World),
 I [] w' →
 ∃ (b : Bool),
 ∃ (r : List Value),
 ∃ (w1 : World),
 NxtP Tryz.prog (Value.pointer (some (Addr.mk n 0 none))) b r w' w1 ∧
 KeptL [] w' w1 ∧
 bsp b
 (∃ (f : Nat → Int),
 ∃ (f_1 : Nat → Int),
 ∃ (f_2 : Nat → Int),
 ∃ (x : ByteArray),
 ∃ (x_1 : Int),
 ∃ (x_2 : Bool),
 ∃ (x_3 : Bool),
 ∃ (p : Option Addr),
 ∃ (n_5 : Nat),
 ∃ (c : Nat),
 ∃ (x_4 : ByteArray),
 EntP Tryz.prog (Value.pointer (some (Addr.mk n 0 none)))
 (Value.tuple
 #[Value.agg
 (arrI IntKind.u8 f 32 0).toArray,
 Value.agg
 (arrI IntKind.u8 f_1 32 0 ++ (arrI IntKind.u8 f_2 16 0 ++ [Value.string x,
 Value.int IntKind.i64 x_1, Value.bool x_2,
 Value.bool x_3, Value.slice p n_5 c,
 Value.string x_4])).toArray])
 w1 ∧
 ∀ (n n_6 : Nat) (W : World),
 Loc w.heap.size
 [Blk.mk n_6 56
 (arrI IntKind.u8 f_1 32 0 ++ (arrI IntKind.u8 f_2 16 0 ++ [Value.string x,
 Value.int IntKind.i64 x_1, Value.bool x_2,
 Value.bool x_3, Value.slice p n_5 c,
 Value.string x_4]))
 (wrM 2),
 Blk.mk n 52
 (arrI IntKind.u8 f 32 0)
 (wrM 2)]
 w1 W →
 ∃ (S : World → Prop),
 S W ∧
 ∃ (x : Option Nat),
 (∀ (w' : World),
 S w' →
 w'.cell? (Addr.mk n_4 (0 + 2) none) =
 some (Value.map x)) ∧
 ∃ (f : Nat → Int),
 (∀ (w' : World),
 S w' →
 AtL w' n 0
 (arrI IntKind.u8 f 32 0)) ∧
 ∃ (f_3 : Nat → Int),
 ∃ (f_4 : Nat → Int),
 ∃ (x_5 : ByteArray),
 ∃ (x_6 : Int),
 ∃ (x_7 : Bool),
 ∃ (x_8 : Bool),
 ∃ (p : Option Addr),
 ∃ (n_7 : Nat),
 ∃ (c : Nat),
 ∃ (x_9 : ByteArray),
 (∀ (w' : World),
 S w' →
 AtL w' n_6 0
 (arrI IntKind.u8 f_3 32 0 ++ (arrI IntKind.u8 f_4 16 0 ++ [Value.string x_5,
 Value.int IntKind.i64 x_6,
 Value.bool x_7, Value.bool x_8,
 Value.slice p n_7 c,
 Value.string x_9]))) ∧
 CallsS Tryz.prog 53
 #[Value.agg
 (arrI IntKind.u8 f_3 32 0 ++ (arrI IntKind.u8 f_4 16 0 ++ [Value.string x_5,
 Value.int IntKind.i64 x_6,
 Value.bool x_7, Value.bool x_8,
 Value.slice p n_7 c,
 Value.string x_9])).toArray]
 W fun (e : Ending) (w'_1 : World) =>
 ∃ (f_5 : Nat → Int),
 ∃ (f_6 : Nat → Int),
 ∃ (x_10 : ByteArray),
 ∃ (x_11 : Int),
 ∃ (x_12 : Bool),
 ∃ (x_13 : Bool),
 ∃ (p : Option Addr),
 ∃ (n_8 : Nat),
 ∃ (c : Nat),
 ∃ (x_14 : ByteArray),
 e =
 Ending.returned
 (Value.agg
 (arrI IntKind.u8 f_5 32 0 ++ (arrI IntKind.u8 f_6 16 0 ++ [Value.string x_10,
 Value.int IntKind.i64
 x_11,
 Value.bool x_12,
 Value.bool x_13,
 Value.slice p n_8 c,
 Value.string x_14])).toArray) ∧
 S w'_1 ∧
 ∃ (w1 : World),
 UpdP Tryz.prog 96
 (Value.map x)
 (Value.agg
 (arrI IntKind.u8 f 32 0).toArray)
 (Value.agg
 (arrI IntKind.u8 f_5 32 0 ++ (arrI IntKind.u8 f_6 16 0 ++ [Value.string x_10,
 Value.int
 IntKind.i64 x_11,
 Value.bool x_12,
 Value.bool x_13,
 Value.slice p n_8
 c,
 Value.string x_14])).toArray)
 w'_1 w1 ∧
 KeptL [n_6, n] W w1 ∧
 I [] w1 ∧
 m [] w1 < m [] w')
 (R (Ending.returned (Value.pointer (some (Addr.mk n_4 0 none))))
 w1)) ∧
 ∀ (n_2 : Nat) (w1 : World),
 NewB w' (Obj.map #[] 0) n_2 w1 →
 S w1 ∧
 CallsS Tryz.prog 65 #[Value.slice p_1 n_1 c_1] w1 fun (e : Ending) (w' : World) =>
 ∃ (p_2 : Option Addr),
 ∃ (n_3 : Nat),
 ∃ (c_2 : Nat),
 e = Ending.returned (Value.slice p_2 n_3 c_2) ∧
 ∀ (n_4 : Nat) (w1 : World),
 NewB w'
 (Obj.cells #[Value.slice p n c, Value.slice p_2 n_3 c_2, Value.map (some n_2)] 99) n_4
 w1 →
 KeptL [] W w1 ∧
 nn true x fun (b o : Nat) =>
 ∃ (x : Option Nat),
 w1.cell? (Addr.mk b (o + 2) none) = some (Value.map x) ∧
 ∃ (n : Nat),
 ∃ (w1_1 : World),
 RngP Tryz.prog 96 (Value.map x) n w1 w1_1 ∧
 KeptL [] w1 w1_1 ∧
 ∃ (I : List Value → World → Prop),
 ∃ (m : List Value → World → Nat),
 I [] w1_1 ∧
 ∀ (w' : World),
 I [] w' →
 ∃ (b : Bool),
 ∃ (r : List Value),
 ∃ (w1 : World),
 NxtP Tryz.prog (Value.pointer (some (Addr.mk n 0 none))) b r w' w1 ∧
 KeptL [] w' w1 ∧
 bsp b
 (∃ (f : Nat → Int),
 ∃ (f_1 : Nat → Int),
 ∃ (f_2 : Nat → Int),
 ∃ (x : ByteArray),
 ∃ (x_1 : Int),
 ∃ (x_2 : Bool),
 ∃ (x_3 : Bool),
 ∃ (p : Option Addr),
 ∃ (n_5 : Nat),
 ∃ (c : Nat),
 ∃ (x_4 : ByteArray),
 EntP Tryz.prog (Value.pointer (some (Addr.mk n 0 none)))
 (Value.tuple
 #[Value.agg
 (arrI IntKind.u8 f 32 0).toArray,
 Value.agg
 (arrI IntKind.u8 f_1 32 0 ++ (arrI IntKind.u8 f_2 16 0 ++ [Value.string x,
 Value.int IntKind.i64 x_1, Value.bool x_2,
 Value.bool x_3, Value.slice p n_5 c,
 Value.string x_4])).toArray])
 w1 ∧
 ∀ (n n_6 : Nat) (W : World),
 Loc w.heap.size
 [Blk.mk n_6 56
 (arrI IntKind.u8 f_1 32 0 ++ (arrI IntKind.u8 f_2 16 0 ++ [Value.string x,
 Value.int IntKind.i64 x_1, Value.bool x_2,
 Value.bool x_3, Value.slice p n_5 c,
 Value.string x_4]))
 (wrM 2),
 Blk.mk n 52
 (arrI IntKind.u8 f 32 0)
 (wrM 2)]
 w1 W →
 ∃ (S : World → Prop),
 S W ∧
 ∃ (x : Option Nat),
 (∀ (w' : World),
 S w' →
 w'.cell? (Addr.mk n_4 (0 + 2) none) =
 some (Value.map x)) ∧
 ∃ (f : Nat → Int),
 (∀ (w' : World),
 S w' →
 AtL w' n 0
 (arrI IntKind.u8 f 32 0)) ∧
 ∃ (f_3 : Nat → Int),
 ∃ (f_4 : Nat → Int),
 ∃ (x_5 : ByteArray),
 ∃ (x_6 : Int),
 ∃ (x_7 : Bool),
 ∃ (x_8 : Bool),
 ∃ (p : Option Addr),
 ∃ (n_7 : Nat),
 ∃ (c : Nat),
 ∃ (x_9 : ByteArray),
 (∀ (w' : World),
 S w' →
 AtL w' n_6 0
 (arrI IntKind.u8 f_3 32 0 ++ (arrI IntKind.u8 f_4 16 0 ++ [Value.string x_5,
 Value.int IntKind.i64 x_6,
 Value.bool x_7, Value.bool x_8,
 Value.slice p n_7 c,
 Value.string x_9]))) ∧
 CallsS Tryz.prog 53
 #[Value.agg
 (arrI IntKind.u8 f_3 32 0 ++ (arrI IntKind.u8 f_4 16 0 ++ [Value.string x_5,
 Value.int IntKind.i64 x_6,
 Value.bool x_7, Value.bool x_8,
 Value.slice p n_7 c,
 Value.string x_9])).toArray]
 W fun (e : Ending) (w'_1 : World) =>
 ∃ (f_5 : Nat → Int),
 ∃ (f_6 : Nat → Int),
 ∃ (x_10 : ByteArray),
 ∃ (x_11 : Int),
 ∃ (x_12 : Bool),
 ∃ (x_13 : Bool),
 ∃ (p : Option Addr),
 ∃ (n_8 : Nat),
 ∃ (c : Nat),
 ∃ (x_14 : ByteArray),
 e =
 Ending.returned
 (Value.agg
 (arrI IntKind.u8 f_5 32 0 ++ (arrI IntKind.u8 f_6 16 0 ++ [Value.string x_10,
 Value.int IntKind.i64
 x_11,
 Value.bool x_12,
 Value.bool x_13,
 Value.slice p n_8 c,
 Value.string x_14])).toArray) ∧
 S w'_1 ∧
 ∃ (w1 : World),
 UpdP Tryz.prog 96
 (Value.map x)
 (Value.agg
 (arrI IntKind.u8 f 32 0).toArray)
 (Value.agg
 (arrI IntKind.u8 f_5 32 0 ++ (arrI IntKind.u8 f_6 16 0 ++ [Value.string x_10,
 Value.int
 IntKind.i64 x_11,
 Value.bool x_12,
 Value.bool x_13,
 Value.slice p n_8
 c,
 Value.string x_14])).toArray)
 w'_1 w1 ∧
 KeptL [n_6, n] W w1 ∧
 I [] w1 ∧
 m [] w1 < m [] w')
 (R (Ending.returned (Value.pointer (some (Addr.mk n_4 0 none))))
 w1)) ∧
 ∀ (n_2 : Nat) (w1 : World),
 NewB W (Obj.map #[] 0) n_2 w1 →
 S w1 ∧
 CallsS Tryz.prog 44 #[Value.slice p n c] w1 fun (e : Ending) (w' : World) =>
 ∃ (p : Option Addr),
 ∃ (n : Nat),
 ∃ (c : Nat),
 e = Ending.returned (Value.slice p n c) ∧
 S w' ∧
 CallsS Tryz.prog 65 #[Value.slice p_1 n_1 c_1] w' fun (e : Ending) (w' : World) =>
 ∃ (p_2 : Option Addr),
 ∃ (n_3 : Nat),
 ∃ (c_2 : Nat),
 e = Ending.returned (Value.slice p_2 n_3 c_2) ∧
 ∀ (n_4 : Nat) (w1 : World),
 NewB w'
 (Obj.cells #[Value.slice p n c, Value.slice p_2 n_3 c_2, Value.map (some n_2)] 99) n_4
 w1 →
 KeptL [] W w1 ∧
 nn true x fun (b o : Nat) =>
 ∃ (x : Option Nat),
 w1.cell? (Addr.mk b (o + 2) none) = some (Value.map x) ∧
 ∃ (n : Nat),
 ∃ (w1_1 : World),
 RngP Tryz.prog 96 (Value.map x) n w1 w1_1 ∧
 KeptL [] w1 w1_1 ∧
 ∃ (I : List Value → World → Prop),
 ∃ (m : List Value → World → Nat),
 I [] w1_1 ∧
 ∀ (w' : World),
 I [] w' →
 ∃ (b : Bool),
 ∃ (r : List Value),
 ∃ (w1 : World),
 NxtP Tryz.prog (Value.pointer (some (Addr.mk n 0 none))) b r w' w1 ∧
 KeptL [] w' w1 ∧
 bsp b
 (∃ (f : Nat → Int),
 ∃ (f_1 : Nat → Int),
 ∃ (f_2 : Nat → Int),
 ∃ (x : ByteArray),
 ∃ (x_1 : Int),
 ∃ (x_2 : Bool),
 ∃ (x_3 : Bool),
 ∃ (p : Option Addr),
 ∃ (n_5 : Nat),
 ∃ (c : Nat),
 ∃ (x_4 : ByteArray),
 EntP Tryz.prog (Value.pointer (some (Addr.mk n 0 none)))
 (Value.tuple
 #[Value.agg
 (arrI IntKind.u8 f 32 0).toArray,
 Value.agg
 (arrI IntKind.u8 f_1 32 0 ++ (arrI IntKind.u8 f_2 16 0 ++ [Value.string x,
 Value.int IntKind.i64 x_1, Value.bool x_2,
 Value.bool x_3, Value.slice p n_5 c,
 Value.string x_4])).toArray])
 w1 ∧
 ∀ (n n_6 : Nat) (W : World),
 Loc w.heap.size
 [Blk.mk n_6 56
 (arrI IntKind.u8 f_1 32 0 ++ (arrI IntKind.u8 f_2 16 0 ++ [Value.string x,
 Value.int IntKind.i64 x_1, Value.bool x_2,
 Value.bool x_3, Value.slice p n_5 c,
 Value.string x_4]))
 (wrM 2),
 Blk.mk n 52
 (arrI IntKind.u8 f 32 0)
 (wrM 2)]
 w1 W →
 ∃ (S : World → Prop),
 S W ∧
 ∃ (x : Option Nat),
 (∀ (w' : World),
 S w' →
 w'.cell? (Addr.mk n_4 (0 + 2) none) =
 some (Value.map x)) ∧
 ∃ (f : Nat → Int),
 (∀ (w' : World),
 S w' →
 AtL w' n 0
 (arrI IntKind.u8 f 32 0)) ∧
 ∃ (f_3 : Nat → Int),
 ∃ (f_4 : Nat → Int),
 ∃ (x_5 : ByteArray),
 ∃ (x_6 : Int),
 ∃ (x_7 : Bool),
 ∃ (x_8 : Bool),
 ∃ (p : Option Addr),
 ∃ (n_7 : Nat),
 ∃ (c : Nat),
 ∃ (x_9 : ByteArray),
 (∀ (w' : World),
 S w' →
 AtL w' n_6 0
 (arrI IntKind.u8 f_3 32 0 ++ (arrI IntKind.u8 f_4 16 0 ++ [Value.string x_5,
 Value.int IntKind.i64 x_6,
 Value.bool x_7, Value.bool x_8,
 Value.slice p n_7 c,
 Value.string x_9]))) ∧
 CallsS Tryz.prog 53
 #[Value.agg
 (arrI IntKind.u8 f_3 32 0 ++ (arrI IntKind.u8 f_4 16 0 ++ [Value.string x_5,
 Value.int IntKind.i64 x_6,
 Value.bool x_7, Value.bool x_8,
 Value.slice p n_7 c,
 Value.string x_9])).toArray]
 W fun (e : Ending) (w'_1 : World) =>
 ∃ (f_5 : Nat → Int),
 ∃ (f_6 : Nat → Int),
 ∃ (x_10 : ByteArray),
 ∃ (x_11 : Int),
 ∃ (x_12 : Bool),
 ∃ (x_13 : Bool),
 ∃ (p : Option Addr),
 ∃ (n_8 : Nat),
 ∃ (c : Nat),
 ∃ (x_14 : ByteArray),
 e =
 Ending.returned
 (Value.agg
 (arrI IntKind.u8 f_5 32 0 ++ (arrI IntKind.u8 f_6 16 0 ++ [Value.string x_10,
 Value.int IntKind.i64
 x_11,
 Value.bool x_12,
 Value.bool x_13,
 Value.slice p n_8 c,
 Value.string x_14])).toArray) ∧
 S w'_1 ∧
 ∃ (w1 : World),
 UpdP Tryz.prog 96
 (Value.map x)
 (Value.agg
 (arrI IntKind.u8 f 32 0).toArray)
 (Value.agg
 (arrI IntKind.u8 f_5 32 0 ++ (arrI IntKind.u8 f_6 16 0 ++ [Value.string x_10,
 Value.int
 IntKind.i64 x_11,
 Value.bool x_12,
 Value.bool x_13,
 Value.slice p n_8 c,
 Value.string x_14])).toArray)
 w'_1 w1 ∧
 KeptL [n_6, n] W w1 ∧
 I [] w1 ∧
 m [] w1 < m [] w')
 (R (Ending.returned (Value.pointer (some (Addr.mk n_4 0 none)))) w1))
theorem vc_rclone (x : Option Addr) (w : World) (R : Ending → World → Prop) (h : VC_rclone x w R) : Calls Tryz.prog 42 ([Value.pointer
    x] : List Value).toArray w R := by
  have e : execR2 { P := Tryz.prog, loops := [(5, [])], pur := pur1, tails := [(3, 4), (7, 6)], joins := [], boxes := [], rngs := [(25, 96)] } Tryz.f42.results.toList R (Tryz.f42.body.getD .skip) (initF [Value.pointer
    x] (Tryz.f42.ntmps - ([Value.pointer x] : List Value).length)) w = VC_rclone x w R := by kernel_rfl
  have hb : Tryz.f42.body = some (Tryz.f42.body.getD .skip) := by kernel_rfl
  exact calls_of_exec2' (P := Tryz.prog) (fn := Tryz.f42) (c := Tryz.f42.body.getD .skip) (args := [Value.pointer
    x]) (w := w) (R := R) pur1_ok Tryz.func42 hb e h

def VC_requal (x : Option Addr) (y : Option Addr) (w : World) (R : Ending → World → Prop) : Prop :=
 bsp (x.isNone || y.isNone) (R (Ending.returned (Value.bool (x.isNone && y.isNone))) w)
 (∀ (W : World),
 Loc w.heap.size [] w W →
 ∃ (S : World → Prop),
 S W ∧
 nn true x fun (b o : Nat) =>
 ∃ (p : Option Addr),
 ∃ (n : Nat),
 ∃ (c : Nat),
 (∀ (w' : World), S w' → w'.cell? (Addr.mk b o none) = some (Value.slice p n c)) ∧
 nn true y fun (b o : Nat) =>
 ∃ (p_1 : Option Addr),
 ∃ (n_1 : Nat),
 ∃ (c_1 : Nat),
 (∀ (w' : World), S w' → w'.cell? (Addr.mk b o none) = some (Value.slice p_1 n_1 c_1)) ∧
 CallsS Tryz.prog 63 #[Value.slice p n c, Value.slice p_1 n_1 c_1] W fun (e : Ending) (w' : World) =>
 ∃ (x_1 : Bool),
 e = Ending.returned (Value.bool x_1) ∧
 S w' ∧
 nn x_1 x fun (b o : Nat) =>
 ∃ (x : Option Nat),
 gimp x_1 (∀ (w' : World), S w' → w'.cell? (Addr.mk b (o + 2) none) = some (Value.map x)) ∧
 nn x_1 y fun (b o : Nat) =>
 ∃ (x_2 : Option Nat),
 gimp x_1 (∀ (w' : World), S w' → w'.cell? (Addr.mk b (o + 2) none) = some (Value.map x_2)) ∧
 bsp x_1
 (CallsS Tryz.prog 64 #[Value.map x, Value.map x_2, Value.func (Fn.func 27) #[] #[]] w'
 fun (e : Ending) (w' : World) =>
 ∃ (x : Bool),
 e = Ending.returned (Value.bool x) ∧
 KeptL [] W w' ∧ R (Ending.returned (Value.bool (true && x))) w')
 (KeptL [] W w' ∧ R (Ending.returned (Value.bool false)) w'))
theorem vc_requal (x : Option Addr) (y : Option Addr) (w : World) (R : Ending → World → Prop) (h : VC_requal x y w R) : Calls Tryz.prog 41 ([Value.pointer
    x,
  Value.pointer y] : List Value).toArray w R := by
  have e : execR2 { P := Tryz.prog, loops := [], pur := pur1, tails := [(3, 8)], joins := [], boxes := [] } Tryz.f41.results.toList R (Tryz.f41.body.getD .skip) (initF [Value.pointer
    x,
  Value.pointer
    y] (Tryz.f41.ntmps - ([Value.pointer x,
  Value.pointer y] : List Value).length)) w = VC_requal x y w R := by kernel_rfl
  have hb : Tryz.f41.body = some (Tryz.f41.body.getD .skip) := by kernel_rfl
  exact calls_of_exec2' (P := Tryz.prog) (fn := Tryz.f41) (c := Tryz.f41.body.getD .skip) (args := [Value.pointer x,
  Value.pointer y]) (w := w) (R := R) pur1_ok Tryz.func41 hb e h

def VC_aueq (p : Option Addr) (n : Nat) (c : Nat) (q : Option Addr) (k : Nat) (d : Nat) (w : World) (R : Ending → World → Prop) : Prop :=
 bsp ((↑n : Int) != (↑k : Int)) (R (Ending.returned (Value.bool false)) w)
 (∃ (I : List Value → World → Prop),
 ∃ (m : List Value → World → Nat),
 I [Value.int IntKind.i64 0] w ∧
 ∀ (x : Int) (w' : World),
 I [Value.int IntKind.i64 x] w' →
 bsp (decide (x < (↑n : Int)))
 (nn true p fun (b o : Nat) =>
 (0 ≤ x ∧ x < (↑n : Int)) ∧
 ∃ (x_1 : ByteArray),
 ∃ (f : Nat → Int),
 (∀ (W : World),
 Loc w.heap.size [] w' W →
 AtL W b (o + x.toNat * 17)
 ([Value.string x_1] ++ arrI IntKind.u8 f 16 0)) ∧
 nn true q fun (b o : Nat) =>
 (0 ≤ x ∧ x < (↑k : Int)) ∧
 ∃ (x_2 : ByteArray),
 ∃ (f_1 : Nat → Int),
 (∀ (W : World),
 Loc w.heap.size [] w' W →
 AtL W b (o + x.toNat * 17)
 ([Value.string x_2] ++ arrI IntKind.u8 f_1 16 0)) ∧
 ∃ (r : Bool),
 EqP Tryz.prog 94
 (Value.agg
 ([Value.string x_1] ++ arrI IntKind.u8 f 16 0).toArray)
 (Value.agg
 ([Value.string x_2] ++ arrI IntKind.u8 f_1 16 0).toArray)
 r ∧
 bsp (!r) (∀ (W : World), Loc w.heap.size [] w' W → R (Ending.returned (Value.bool false)) W)
 (∀ (W : World),
 Loc w.heap.size [] w' W →
 I [Value.int IntKind.i64 (IntKind.i64.wrap (x + 1))] W ∧
 m [Value.int IntKind.i64 (IntKind.i64.wrap (x + 1))] W < m [Value.int IntKind.i64 x] w'))
 (R (Ending.returned (Value.bool true)) w'))
theorem vc_aueq (p : Option Addr) (n : Nat) (c : Nat) (q : Option Addr) (k : Nat) (d : Nat) (w : World) (R : Ending → World → Prop) (h : VC_aueq p n c q k d w R) : Calls Tryz.prog 63 ([Value.slice
    p n c,
  Value.slice q k d] : List Value).toArray w R := by
  have e : execR2 { P := Tryz.prog, loops := [(4, [(13, Ck.int IntKind.i64)])], pur := pur1, tails := [], joins := [], boxes := [] } Tryz.f63.results.toList R (Tryz.f63.body.getD .skip) (initF [Value.slice
    p n c,
  Value.slice q k
    d] (Tryz.f63.ntmps - ([Value.slice p n c,
  Value.slice q k d] : List Value).length)) w = VC_aueq p n c q k d w R := by kernel_rfl
  have hb : Tryz.f63.body = some (Tryz.f63.body.getD .skip) := by kernel_rfl
  exact calls_of_exec2' (P := Tryz.prog) (fn := Tryz.f63) (c := Tryz.f63.body.getD .skip) (args := [Value.slice p n c,
  Value.slice q k d]) (w := w) (R := R) pur1_ok Tryz.func63 hb e h

def VC_lsclone (p : Option Addr) (n : Nat) (c : Nat) (w : World) (R : Ending → World → Prop) : Prop :=
 bsp p.isNone (R (Ending.returned (Value.slice none 0 0)) w)
 (∀ (n_1 : Nat) (W : World),
 Loc w.heap.size [Blk.mk n_1 74 [] 2] w W →
 ∃ (base : Nat),
 ∃ (xs : List Value),
 ∃ (news : List Value),
 W.ownsRow base 74 1 (Value.slice (some (Addr.mk n_1 0 none)) 0 0) 0 xs ∧
 news.length = n * 1 ∧
 SrcP W p news ∧
 0 + n ≤ 9223372036854775807 ∧
 (0 + n) * 8 ≤ 140737488355328 ∧
 base ≤ W.heap.size ∧
 ∀ (p' : Option Addr) (c' : Nat) (w' : World),
 w'.ownsRow base 74 1 (Value.slice p' (0 + n) c') (0 + n) (xs ++ news) →
 W.grownBy w' (Value.slice (some (Addr.mk n_1 0 none)) 0 0).ownBlock →
 (0 + n ≤ 0 → p' = some (Addr.mk n_1 0 none) ∧ c' = 0) →
 KeptL [] W w' ∧ R (Ending.returned (Value.slice p' (0 + n) c')) w')
theorem vc_lsclone (p : Option Addr) (n : Nat) (c : Nat) (w : World) (R : Ending → World → Prop) (h : VC_lsclone p n c w R) : Calls Tryz.prog 65 ([Value.slice
    p n c] : List Value).toArray w R := by
  have e : execR2 { P := Tryz.prog, loops := [], pur := pur1, tails := [], joins := [], boxes := [] } Tryz.f65.results.toList R (Tryz.f65.body.getD .skip) (initF [Value.slice
    p n c] (Tryz.f65.ntmps - ([Value.slice p n c] : List Value).length)) w = VC_lsclone p n c w R := by kernel_rfl
  have hb : Tryz.f65.body = some (Tryz.f65.body.getD .skip) := by kernel_rfl
  exact calls_of_exec2' (P := Tryz.prog) (fn := Tryz.f65) (c := Tryz.f65.body.getD .skip) (args := [Value.slice p n
    c]) (w := w) (R := R) pur1_ok Tryz.func65 hb e h

end Go.Proofs.YtkkfnlehlkiejaaGreatDoor

/- The formulas of functions by the symbolic evaluator, and that each gives the call's contract. Written by a program (gen.py). No condition. -/
namespace Go.Proofs.YtkkfnlehlkiejaaGreatDoor
set_option maxRecDepth 100000
set_option linter.unusedVariables false

def VC_mapeq (x : Option Nat) (y : Option Nat) (f : FuncId) (fa : Array Value) (fb : Array Value) (w : World) (R : Ending → World → Prop) : Prop :=
 ∃ (n : Int),
 LenP Tryz.prog 96 (Value.map x) n w ∧
 ∃ (n_1 : Int),
 LenP Tryz.prog 96 (Value.map y) n_1 w ∧
 bsp (n != n_1) (R (Ending.returned (Value.bool false)) w)
 (∃ (n : Nat),
 ∃ (w1 : World),
 RngP Tryz.prog 96 (Value.map x) n w w1 ∧
 KeptL [] w w1 ∧
 ∃ (I : List Value → World → Prop),
 ∃ (m : List Value → World → Nat),
 I [] w1 ∧
 ∀ (w' : World),
 I [] w' →
 ∃ (b : Bool),
 ∃ (r : List Value),
 ∃ (w1 : World),
 NxtP Tryz.prog (Value.pointer (some (Addr.mk n 0 none))) b r w' w1 ∧
 KeptL [] w' w1 ∧
 bsp b
 (∃ (f_1 : Nat → Int),
 ∃ (f_2 : Nat → Int),
 ∃ (f_3 : Nat → Int),
 ∃ (x : ByteArray),
 ∃ (x_1 : Int),
 ∃ (x_2 : Bool),
 ∃ (x_3 : Bool),
 ∃ (p : Option Addr),
 ∃ (n_2 : Nat),
 ∃ (c : Nat),
 ∃ (x_4 : ByteArray),
 EntP Tryz.prog (Value.pointer (some (Addr.mk n 0 none)))
 (Value.tuple
 #[Value.agg
 (arrI IntKind.u8 f_1 32 0).toArray,
 Value.agg
 (arrI IntKind.u8 f_2 32 0 ++ (arrI IntKind.u8 f_3 16 0 ++ [Value.string x,
 Value.int IntKind.i64 x_1, Value.bool x_2, Value.bool x_3, Value.slice p n_2 c,
 Value.string x_4])).toArray])
 w1 ∧
 ∀ (n n_3 : Nat),
 ∃ (f_4 : Nat → Int),
 ∃ (f_5 : Nat → Int),
 ∃ (x_5 : ByteArray),
 ∃ (x_6 : Int),
 ∃ (x_7 : Bool),
 ∃ (x_8 : Bool),
 ∃ (p_1 : Option Addr),
 ∃ (n_4 : Nat),
 ∃ (c_1 : Nat),
 ∃ (x_9 : ByteArray),
 ∃ (b : Bool),
 (∀ (W : World),
 Loc w.heap.size
 [Blk.mk n_3 56
 (arrI IntKind.u8 f_2 32 0 ++ (arrI IntKind.u8 f_3 16 0 ++ [Value.string x, Value.int IntKind.i64 x_1, Value.bool x_2,
 Value.bool x_3, Value.slice p n_2 c, Value.string x_4]))
 (wrM 2),
 Blk.mk n 52
 (arrI IntKind.u8 f_1 32 0)
 (wrM 2)]
 w1 W →
 LookP Tryz.prog 96 (Value.map y)
 (Value.agg
 (arrI IntKind.u8 f_1 32 0).toArray)
 true
 (Value.tuple
 #[Value.agg
 (arrI IntKind.u8 f_4 32 0 ++ (arrI IntKind.u8 f_5 16 0 ++ [Value.string x_5, Value.int IntKind.i64 x_6, Value.bool x_7,
 Value.bool x_8, Value.slice p_1 n_4 c_1, Value.string x_9])).toArray,
 Value.bool b])
 W) ∧
 ∀ (n_5 : Nat) (W : World),
 Loc w.heap.size
 [Blk.mk n_5 56
 (arrI IntKind.u8 f_4 32 0 ++ (arrI IntKind.u8 f_5 16 0 ++ [Value.string x_5, Value.int IntKind.i64 x_6, Value.bool x_7,
 Value.bool x_8, Value.slice p_1 n_4 c_1, Value.string x_9]))
 (wrM 2),
 Blk.mk n_3 56
 (arrI IntKind.u8 f_2 32 0 ++ (arrI IntKind.u8 f_3 16 0 ++ [Value.string x, Value.int IntKind.i64 x_1, Value.bool x_2,
 Value.bool x_3, Value.slice p n_2 c, Value.string x_4]))
 (wrM 2),
 Blk.mk n 52
 (arrI IntKind.u8 f_1 32 0)
 (wrM 2)]
 w1 W →
 bsp (!!b)
 (∃ (f_6 : Nat),
 ∃ (a : Array Value),
 ∃ (b : Array Value),
 Value.func (Fn.func f) fa fb = Value.func (Fn.func f_6) a b ∧
 okFn Tryz.prog f_6 = true ∧
 CallsS Tryz.prog f_6
 (appA a
 [Value.agg
 (arrI IntKind.u8 f_2 32 0 ++ (arrI IntKind.u8 f_3 16 0 ++ [Value.string x, Value.int IntKind.i64 x_1, Value.bool x_2,
 Value.bool x_3, Value.slice p n_2 c, Value.string x_4])).toArray,
 Value.agg
 (arrI IntKind.u8 f_4 32 0 ++ (arrI IntKind.u8 f_5 16 0 ++ [Value.string x_5, Value.int IntKind.i64 x_6, Value.bool x_7,
 Value.bool x_8, Value.slice p_1 n_4 c_1, Value.string x_9])).toArray]
 b)
 W fun (e : Ending) (w'_1 : World) =>
 ∃ (x : Bool),
 e = Ending.returned (Value.bool x) ∧
 KeptL [n_5, n_3, n] W w'_1 ∧
 bsp (false || !x) (R (Ending.returned (Value.bool false)) w'_1)
 (I [] w'_1 ∧ m [] w'_1 < m [] w'))
 (KeptL [n_5, n_3, n] W W ∧ R (Ending.returned (Value.bool false)) W))
 (R (Ending.returned (Value.bool true)) w1))
theorem vc_mapeq (x : Option Nat) (y : Option Nat) (f : FuncId) (fa : Array Value) (fb : Array Value) (w : World) (R : Ending → World → Prop) (h : VC_mapeq x y f fa fb w R) : Calls Tryz.prog 64 ([Value.map
    x,
  Value.map y, Value.func (Fn.func f) fa fb] : List Value).toArray w R := by
  have e : execR2 { P := Tryz.prog, loops := [(4, [])], pur := pur1, tails := [], joins := [], boxes := [], rngs := [(17, 96)] } Tryz.f64.results.toList R (Tryz.f64.body.getD .skip) (initF [Value.map
    x,
  Value.map y,
  Value.func (Fn.func f) fa
    fb] (Tryz.f64.ntmps - ([Value.map x, Value.map y,
  Value.func (Fn.func f) fa fb] : List Value).length)) w = VC_mapeq x y f fa fb w R := by kernel_rfl
  have hb : Tryz.f64.body = some (Tryz.f64.body.getD .skip) := by kernel_rfl
  exact calls_of_exec2' (P := Tryz.prog) (fn := Tryz.f64) (c := Tryz.f64.body.getD .skip) (args := [Value.map x,
  Value.map y, Value.func (Fn.func f) fa fb]) (w := w) (R := R) pur1_ok Tryz.func64 hb e h

end Go.Proofs.YtkkfnlehlkiejaaGreatDoor

/- Chapter 21: the contracts of a registry's Clone and Equal. Lists that are not too long. -/
namespace Go.Proofs.YtkkfnlehlkiejaaGreatDoor
open Go.RowKit Go.Sort Go.Maps

/-! ### Authorities compared, lists copied -/
theorem atKey (x : Au) (hb : BY x.au) (hs : x.pt.size ≤ 1073741824) (D : Nat) : Tryz.prog.keyLits (D + 3) 94 (atC x) = some ([.string x.pt.data.toList] ++ (auI x.au).map (Lit.int .u8)) := by
  unfold Program.keyLits
  rw [Tryz.underlying94]
  simp only
  have c0 : Tryz.prog.cellsOf 94 = 17 := by kernel_rfl
  rw [if_pos ⟨by rw [c0]; rfl, by decide +kernel⟩]
  have h1 := keyLits_bytes (P := Tryz.prog) (t := 53) (e := 5) (n := 16) Tryz.underlying53 Tryz.underlying5 (by kernel_rfl) (by kernel_rfl) (auI_len x.au) (auI_bd hb) D
  have h2 : Tryz.prog.keyLits (D + 2) 9 [.string x.pt] = some [.string x.pt.data.toList] := by
    unfold Program.keyLits
    rw [Tryz.underlying9]
    simp only
    rw [if_pos (by unfold maxLen; omega)]
  have c1 : Tryz.prog.cellsOf 53 = 16 := by kernel_rfl
  have c2 : Tryz.prog.cellsOf 9 = 1 := by kernel_rfl
  simp only [List.mapM_cons, List.mapM_nil, c1, c2]
  have e1 : ((atC x).drop 0).take 1 = [.string x.pt] := rfl
  have e2 : ((atC x).drop 1).take 16 = (auI x.au).map (Value.int .u8) := rfl
  rw [e1, e2, h1, h2]
  simp
theorem atEq (x : Au) (hb : BY x.au) (hs : x.pt.size ≤ 1073741824) : EqP Tryz.prog 94 (.agg (atC x).toArray) (.agg (atC x).toArray) true := by
  have hkey : keyOf Tryz.prog 94 (.agg (atC x).toArray) = some (.string (keyBytes ([.string x.pt.data.toList] ++ (auI x.au).map (Lit.int .u8)))) := by
    unfold keyOf
    rw [Tryz.underlying94]
    simp only
    have h1 : Tryz.prog.keyType 94 = true := by kernel_rfl
    have hf' : (Value.agg (atC x).toArray).formed Tryz.prog 94 = true := by
      unfold Value.formed
      rw [Tryz.underlying94]
      have c0 : Tryz.prog.cellsOf 94 = 17 := by kernel_rfl
      simp only
      rw [c0]; rfl
    rw [h1, hf']
    have h2 := atKey x hb hs (Tryz.prog.types.size - 2)
    have hsz : 2 ≤ Tryz.prog.types.size := by decide +kernel
    have e2 : Tryz.prog.types.size - 2 + 3 = Tryz.prog.types.size + 1 := by omega
    rw [e2] at h2
    have : (Value.agg (atC x).toArray).cells.toList = atC x := by simp [Value.cells]
    rw [this, h2]
    rfl
  refine ⟨fun w => ?_, by kernel_rfl, _, _, rfl, rfl⟩
  obtain ⟨r, hr, hi⟩ := run_equal_deep w (m := 3) (by omega) (by kernel_rfl) (by rw [Tryz.underlying94]) hkey hkey
  rw [hr, hi.2 rfl]
theorem aueq_any (A : List Au) (p : Option Addr) (c : Nat) (q : Option Addr) (d : Nat) (w : World) (hp : RowA atC 17 w p A) (hq : RowA atC 17 w q A) (hb : ∀ x ∈ A, BY x.au) (hs : ∀ x ∈ A, x.pt.size ≤ 1073741824) (hl : A.length ≤ 64) :
    Calls Tryz.prog 63 #[.slice p A.length c, .slice q A.length d] w fun e w' => e = .returned (.bool true) ∧ K0 w w' := by
  refine vc_aueq p A.length c q A.length d w _ (bsp_intro (fun h => by simp at h) (fun _ => ?_))
  refine ⟨fun vs w' => ∃ i : Nat, vs = [.int .i64 (i : Int)] ∧ i ≤ A.length ∧ K0 w w', fun vs _ => (match vs with | .int _ a :: _ => A.length - a.toNat | _ => 0), ⟨0, rfl, by omega, .refl _ _⟩, ?_⟩
  rintro x w1 ⟨i, hv, hi, k1⟩
  simp only [List.cons.injEq, Value.int.injEq, true_and, and_true] at hv
  subst hv
  refine bsp_intro (fun hlt => ?_) (fun hge => ⟨rfl, k1⟩)
  have hlt : i < A.length := by simp at hlt; omega
  obtain ⟨x, b, o, hx, hpb, hat⟩ := (hp.k0 k1).get hlt
  obtain ⟨y, b2, o2, hy, hqb, hat2⟩ := (hq.k0 k1).get hlt
  obtain rfl : x = y := Option.some.inj (hx.symm.trans hy)
  have hxm := List.mem_of_getElem? hx
  rw [Int.toNat_natCast]
  refine nn_is hpb ⟨⟨by omega, by omega⟩, x.pt, x.au, fun W hW => hat.k0 (hW.kk rfl), nn_is hqb ⟨⟨by omega, by omega⟩, x.pt, x.au, fun W hW => hat2.k0 (hW.kk rfl), true, atEq x (hb x hxm) (hs x hxm), bsp_intro (fun h => by cases h) (fun _ => fun W hW => ⟨⟨i + 1, by rw [inc64 (by omega)], hlt, k1.trans (hW.kk rfl)⟩, by rw [inc64 (by omega)]; simp only [Int.toNat_natCast]; omega⟩)⟩⟩
def lpC (b : Nat) : List Value := [.pointer (some ⟨b, 0, none⟩)]
theorem lpC_length (b : Nat) : (lpC b).length = 1 := rfl
theorem lpC_one (b : Nat) : ∀ u ∈ lpC b, u.oneCell' = true := fun u hu => by simp [lpC] at hu; subst hu; rfl
theorem lsclone_any (l : List Nat) (p : Option Addr) (c : Nat) (w : World) (hR : RowA lpC 1 w p l) (hl : l.length ≤ 1000000) :
    Calls Tryz.prog 65 #[.slice p l.length c] w fun e w' => (∃ (p' : Option Addr) (c' : Nat), e = .returned (.slice p' l.length c') ∧ w'.ownsRow w.heap.size 74 1 (.slice p' l.length c') l.length (l.flatMap lpC)) ∧ K0 w w' := by
  refine vc_lsclone p l.length c w _ (bsp_intro (fun h => ?_) (fun h => fun n1 W hW => ?_))
  · obtain rfl : p = none := by simpa using h
    have := rowA_none hR
    subst this
    exact ⟨⟨none, 0, rfl, World.ownsRow_nil _ _ _ _⟩, .refl _ _⟩
  have kW : K0 w W := hW.kk rfl
  have g1 : w.heap.size ≤ n1 := hW.fresh 0 rfl rfl
  have h0 := hW.cells 0 rfl
  refine ⟨w.heap.size, [], l.flatMap lpC, own_none g1 h0, by rw [len_flat lpC 1 l (fun y _ => lpC_length y)], src_rowA (hR.k0 kW) lpC_length lpC_one (by decide), by omega, by omega, kW.size, fun p' c' w' ho hg _ => ?_⟩
  rw [Nat.zero_add] at ho
  rw [Nat.zero_add]
  refine ⟨⟨(kp_grown hg).size, fun _ hx => by cases hx⟩, ⟨p', c', rfl, by simpa using ho⟩, kW.fresh (kp_grown hg) (fun j hj e => by simp only [Value.ownBlock, Option.some.injEq] at e; omega)⟩
/-- The lists of a registry as a row of pointers. -/
theorem RegS.row {w : World} {b mb : Nat} {A : List Au} (h : RegS w b mb A) : ∃ (ap : Option Addr) (ac : Nat) (lp : Option Addr) (lc : Nat) (lbs : List Nat), w.heap[b]? = some (.cells #[.slice ap A.length ac, .slice lp A.length lc, .map (some mb)] 99 (0, 0)) ∧ RowA atC 17 w ap A ∧ lbs.length = A.length ∧ RowA lpC 1 w lp lbs ∧
    ∀ (k : Nat) (x : Au) (lb : Nat), A[k]? = some x → lbs[k]? = some lb → ∃ es, listR x.pt = .inl es ∧ ListR (fun _ => True) w lb x.pt es := by
  obtain ⟨ap, ac, lp, lc, h1, h2, h3⟩ := h
  have key : ∀ i, i < A.length → ∃ lb : Nat, (∃ g o, lp = some ⟨g, o, none⟩ ∧ w.cell? ⟨g, o + i, none⟩ = some (.pointer (some ⟨lb, 0, none⟩))) ∧ ∀ x, A[i]? = some x → ∃ es, listR x.pt = .inl es ∧ ListR (fun _ => True) w lb x.pt es := fun i hi => by
    obtain ⟨g, o, lb, es, a1, a2, a3, a4⟩ := h3 i A[i] (List.getElem?_eq_getElem hi)
    refine ⟨lb, ⟨g, o, a1, a2⟩, fun x hx => ?_⟩
    rw [List.getElem?_eq_getElem hi] at hx
    cases hx
    exact ⟨es, a3, a4⟩
  obtain ⟨lbs, hlen, hL⟩ := list_of key
  refine ⟨ap, ac, lp, lc, lbs, h1, h2, hlen, fun k lb hk => ?_, fun k x lb hx hlb => (hL k lb hlb).2 x hx⟩
  obtain ⟨g, o, a1, a2⟩ := (hL k lb hk).1
  exact ⟨g, o, a1, ⟨At_of _ _ fun j v hv => by
    have hj : j = 0 := by
      have := (List.getElem?_eq_some_iff.1 hv).1
      simp [lpC] at this; exact this
    subst hj
    simp [lpC] at hv
    subst hv
    simpa using a2⟩⟩
theorem RegS.of {w : World} {b mb : Nat} {A : List Au} {ap : Option Addr} {ac : Nat} {lp : Option Addr} {lc : Nat} {lbs : List Nat} (h1 : w.heap[b]? = some (.cells #[.slice ap A.length ac, .slice lp A.length lc, .map (some mb)] 99 (0, 0))) (h2 : RowA atC 17 w ap A) (h3 : lbs.length = A.length) (h4 : RowA lpC 1 w lp lbs)
    (h5 : ∀ (k : Nat) (x : Au) (lb : Nat), A[k]? = some x → lbs[k]? = some lb → ∃ es, listR x.pt = .inl es ∧ ListR (fun _ => True) w lb x.pt es) : RegS w b mb A := by
  refine ⟨ap, ac, lp, lc, h1, h2, fun k x hx => ?_⟩
  have hk := (List.getElem?_eq_some_iff.1 hx).1
  obtain ⟨lb, g, o, hlb, hp, hat⟩ := h4.get (k := k) (by omega)
  obtain ⟨es, a1, a2⟩ := h5 k x lb hx hlb
  exact ⟨g, o, lb, es, hp, by have := hat.cell (j := 0) (v := .pointer (some ⟨lb, 0, none⟩)) rfl; simpa using this, a1, a2⟩

/-! ### Clone -/
/-- The entries of the one are entries of the other. -/
def EqM (l1 l2 : List (List Int × DX)) : Prop := l1.length = l2.length ∧ ∀ a x, aget l1 a = some x → ∃ y, aget l2 a = some y ∧ y.d = x.d
theorem Reg.dis {w : World} {b mb : Nat} {A : List Au} {l : List (List Int × DX)} (h : Reg w b mb A l) : l.Pairwise fun p q => p.1 ≠ q.1 := by
  have := h.map.dis
  unfold amap at this
  rw [List.pairwise_map] at this
  exact this
theorem RngB.no_cell {w : World} {r b : Nat} {todo : List (List Int × Value)} (h : RngB byA w r b todo) {o : Nat} {v : Value} : ¬ w.cell? ⟨r, o, none⟩ = some v := by
  obtain ⟨es, cl, si, c0, se, h1, h2, _⟩ := h.h
  simp [World.cell?, h2]
theorem RngB.no_cells {w : World} {r b : Nat} {todo : List (List Int × Value)} (h : RngB byA w r b todo) {c : Array Value} {t : TypeId} {f : Nat × Nat} : ¬ w.heap[r]? = some (.cells c t f) := by
  obtain ⟨es, cl, si, c0, se, h1, h2, _⟩ := h.h
  rw [h2]; intro h; cases h
theorem RowA.kpC {α : Type} {f : α → List Value} {L : Nat} {w w' : World} {p : Option Addr} {l : List α} {M : Nat → Prop} (h : RowA f L w p l) (hk : Kp M w w') (hm : ∀ g o v, M g → ¬ w.cell? ⟨g, o, none⟩ = some v) : RowA f L w' p l := fun k y hy => by
  obtain ⟨b, o, h1, h2⟩ := h k y hy
  exact ⟨b, o, h1, ⟨At_of _ _ fun j u hu => hk.cell' (h2.cell hu) (fun e => hm _ _ _ e (h2.cell hu))⟩⟩
theorem Reg.kpC {w w' : World} {b mb : Nat} {A : List Au} {l : List (List Int × DX)} {M : Nat → Prop} (h : Reg w b mb A l) (hk : Kp M w w') (hmb : ¬ M mb) (hm : ∀ g o v, M g → ¬ w.cell? ⟨g, o, none⟩ = some v) (hc : ∀ g c t f, M g → ¬ w.heap[g]? = some (.cells c t f)) : Reg w' b mb A l := by
  refine ⟨?_, h.map.kp hk hmb, fun a x hx => ⟨(h.str a x hx).1.kpC hk hm, (h.str a x hx).2⟩, h.ok, h.au⟩
  obtain ⟨ap, ac, lp, lc, h1, h2, h3⟩ := h.st
  refine ⟨ap, ac, lp, lc, hk.blk h1 (fun e => hc b _ _ _ e h1), h2.kpC hk hm, fun k x hx => ?_⟩
  obtain ⟨g, o, lb, es, a1, a2, a3, a4⟩ := h3 k x hx
  exact ⟨g, o, lb, es, a1, hk.cell' a2 (fun e => hm _ _ _ e a2), a3, a4.kpT hk (fun k c t f e hh => absurd hh (hc k c t f e))⟩
theorem erase_ne {l : List (List Int × DX)} (hd : l.Pairwise fun p q => p.1 ≠ q.1) {j : Nat} {q : List Int × DX} (hj : l[j]? = some q) : ∀ p ∈ l.eraseIdx j, q.1 ≠ p.1 := fun p hp => by
  have h1 := (erase_perm l j q hj).symm.pairwise hd (fun {x y} h => fun e => h e.symm)
  exact (List.pairwise_cons.1 h1).1 p hp
set_option maxRecDepth 100000 in
set_option maxHeartbeats 16000000 in
theorem rclone_any {w : World} {b mb : Nat} {A : List Au} {l : List (List Int × DX)} (h : Reg w b mb A l) (hA : A.length ≤ 64) :
    Calls Tryz.prog 42 #[.pointer (some ⟨b, 0, none⟩)] w fun e w' => (∃ (b' mb' : Nat) (l' : List (List Int × DX)), e = .returned (.pointer (some ⟨b', 0, none⟩)) ∧ Reg w' b' mb' A l' ∧ EqM l' l ∧ w.heap.size ≤ b' ∧ w.heap.size ≤ mb') ∧ K0 w w' := by
  refine vc_rclone (some ⟨b, 0, none⟩) w _ (bsp_intro (fun h => by cases h) (fun _ => fun W hW => ?_))
  have kW : K0 w W := hW.kk rfl
  have hQ := h.k0 kW
  obtain ⟨ap, ac, lp, lc, lbs, h1, h2, h3, h4, h5⟩ := hQ.st.row
  have hbl := block_lt h1
  have hml := hQ.map.lt
  have sW := kW.size
  have hAu := fun (wx : World) (k : K0 W wx) => auclone_any A ap ac wx (h2.k0 k) (by omega)
  have hLs := fun (wx : World) (k : K0 W wx) => lsclone_any lbs lp lc wx (h4.k0 k) (by omega)
  rw [h3] at hLs
  have h5' : ∀ (wx : World), K0 W wx → ∀ (k : Nat) (x : Au) (lb : Nat), A[k]? = some x → lbs[k]? = some lb → ∃ es, listR x.pt = .inl es ∧ ListR (fun _ => True) wx lb x.pt es := fun wx kx k x lb hx hlb => by
    obtain ⟨es, a1, a2⟩ := h5 k x lb hx hlb
    exact ⟨es, a1, a2.kp kx (fun _ _ _ h => h)⟩
  refine ⟨fun wx => K0 W wx, .refl _ _, nn_is rfl ⟨ap, A.length, ac, fun wx k => cell_at (k.blk h1 (fun h => h)) rfl, nn_is rfl ⟨lp, A.length, lc, fun wx k => cell_at (k.blk h1 (fun h => h)) rfl, ?_⟩⟩⟩
  refine ⟨⟨(hAu W (.refl _ _)).mono fun e w1 ⟨⟨p1, c1, he, ho1⟩, k1⟩ => ⟨_, _, _, he, k1, ⟨(hLs w1 k1).mono fun e w2 ⟨⟨p2, c2, he, ho2⟩, k2⟩ => ⟨_, _, _, he, fun n3 w3 hn3 => ⟨(k1.trans k2).trans (hn3.kp _), fun n4 wN hn4 => ?_⟩⟩⟩,
    fun n3 w2 hn3 => ⟨k1.trans (hn3.kp _), ⟨(hLs w2 (k1.trans (hn3.kp _))).mono fun e w3 ⟨⟨p2, c2, he, ho2⟩, k2⟩ => ⟨_, _, _, he, fun n4 wN hn4 => ?_⟩⟩⟩⟩⟩,
    fun n3 w1 hn3 => ⟨hn3.kp _, ⟨(hAu w1 (hn3.kp _)).mono fun e w2 ⟨⟨p1, c1, he, ho1⟩, k1⟩ => ⟨_, _, _, he, (hn3.kp _).trans k1, ⟨(hLs w2 ((hn3.kp _).trans k1)).mono fun e w3 ⟨⟨p2, c2, he, ho2⟩, k2⟩ => ⟨_, _, _, he, fun n4 wN hn4 => ?_⟩⟩⟩⟩⟩⟩
  have k4 := hn4.kp (fun _ => False)
  have k3 := hn3.kp (fun _ => False)
  have kN : K0 W wN := ((k1.trans k2).trans k3).trans k4
  have gn3 : W.heap.size ≤ n3 := Nat.le_trans (k1.trans k2).size hn3.ge
  have gn4 : W.heap.size ≤ n4 := Nat.le_trans ((k1.trans k2).trans k3).size hn4.ge
  have ln3 : n3 < n4 := by have := hn3.size; have := hn4.ge; omega
  have hN : Reg wN n4 n3 A [] := ⟨.of hn4.block (RowA.own (owns_kp ho1 ((k2.trans k3).trans k4) (fun _ _ h => h)) atC_length (by decide)) h3 (RowA.own (by rw [← h3] at ho2; exact owns_kp ho2 (k3.trans k4) (fun _ _ h => h)) lpC_length (by decide)) (h5' wN kN), hn3.map.kp k4 (fun h => h), (fun a x hx => by cases hx), (fun a x hx => by cases hx), h.au⟩
  clear hn4 hn3 k3 k4 ho1 ho2 k1 k2 he
  rotate_left
  have k4 := hn4.kp (fun _ => False)
  have k3 := hn3.kp (fun _ => False)
  have kN : K0 W wN := ((k1.trans k3).trans k2).trans k4
  have gn3 : W.heap.size ≤ n3 := Nat.le_trans k1.size hn3.ge
  have gn4 : W.heap.size ≤ n4 := Nat.le_trans ((k1.trans k3).trans k2).size hn4.ge
  have ln3 : n3 < n4 := by have := hn3.size; have := hn4.ge; have := k2.size; omega
  have hN : Reg wN n4 n3 A [] := ⟨.of hn4.block (RowA.own (owns_kp ho1 ((k3.trans k2).trans k4) (fun _ _ h => h)) atC_length (by decide)) h3 (RowA.own (by rw [← h3] at ho2; exact owns_kp ho2 k4 (fun _ _ h => h)) lpC_length (by decide)) (h5' wN kN), (hn3.map.kp k2 (fun h => h)).kp k4 (fun h => h), (fun a x hx => by cases hx), (fun a x hx => by cases hx), h.au⟩
  clear hn4 hn3 k3 k4 ho1 ho2 k1 k2 he
  rotate_left
  have k4 := hn4.kp (fun _ => False)
  have k3 := hn3.kp (fun _ => False)
  have kN : K0 W wN := ((k3.trans k1).trans k2).trans k4
  have gn3 : W.heap.size ≤ n3 := hn3.ge
  have gn4 : W.heap.size ≤ n4 := Nat.le_trans ((k3.trans k1).trans k2).size hn4.ge
  have ln3 : n3 < n4 := by have := hn3.size; have := hn4.ge; have := k2.size; have := k1.size; omega
  have hN : Reg wN n4 n3 A [] := ⟨.of hn4.block (RowA.own (owns_kp ho1 (k2.trans k4) (fun _ _ h => h)) atC_length (by decide)) h3 (RowA.own (by rw [← h3] at ho2; exact owns_kp ho2 k4 (fun _ _ h => h)) lpC_length (by decide)) (h5' wN kN), ((hn3.map.kp k1 (fun h => h)).kp k2 (fun h => h)).kp k4 (fun h => h), (fun a x hx => by cases hx), (fun a x hx => by cases hx), h.au⟩
  clear hn4 hn3 k3 k4 ho1 ho2 k1 k2 he
  rotate_left
  all_goals
    have hQN := hQ.k0 kN
    have hb0 : wN.cell? ⟨b, 0 + 2, none⟩ = some (.map (some mb)) := cell_at (kN.blk h1 (fun h => h)) rfl
    obtain ⟨r, w3, hrun, hR, k3, gr, rlt⟩ := hQN.map.range (t := 96) Tryz.underlying96
    refine ⟨.of_k0 kN, nn_is rfl ⟨some mb, hb0, r, w3, hrun, .of_k0 k3, ?_⟩⟩
    have hN3 := hN.k0 k3
    have hQ3 := hQN.k0 k3
    have ln4 : n4 < wN.heap.size := by obtain ⟨_, _, _, _, hh, _⟩ := hN.st; exact block_lt hh
    refine ⟨fun vs w' => ∃ (todo lc : List (List Int × DX)), vs = [] ∧ RngB byA w' r mb (amap dfV todo) ∧ todo.Sublist l ∧ lc.length + todo.length = l.length ∧ (∀ a x, aget lc a = some x → ∃ y, aget l a = some y ∧ y.d = x.d) ∧
        (∀ p ∈ lc, ∀ q ∈ todo, p.1 ≠ q.1) ∧ Reg w' n4 n3 A lc ∧ Kp (fun k => k = r ∨ k = n3) w3 w',
      fun _ w' => leftN w' r mb, ⟨l, [], rfl, hR, .refl _, by simp, (fun a x hx => by cases hx), (fun p hp => by cases hp), hN3, .refl _ _⟩, ?_⟩
    rintro w4 ⟨todo, lc, _, hR4, hsub, hlen, hrel, hkn, hN4, k4⟩
    have kw3 : K0 w w3 := (kW.trans kN).trans k3
    have kw4 : K0 w w4 := kw3.fresh k4 (fun j hj e => by have := kN.size; omega)
    rcases hR4.next (P := Tryz.prog) with ⟨hnil, hnx⟩ | ⟨j, q, w5, hj, hnx, hent, hR5, k5⟩
    · have htodo : todo = [] := by
        cases todo with
        | nil => rfl
        | cons x t => simp [amap] at hnil
      subst htodo
      refine ⟨false, [], w4, hnx, .of_k0 (.refl _ _), bsp_intro (fun h => by cases h) (fun _ => ?_)⟩
      exact ⟨⟨n4, n3, lc, rfl, hN4, ⟨by simpa using hlen, hrel⟩, by omega, by omega⟩, kw4⟩
    · have hj' : ((todo.map fun p => (p.1, dfV p.2)))[j]? = some q := hj
      rw [List.getElem?_map, Option.map_eq_some_iff] at hj'
      obtain ⟨q, hqj, rfl⟩ := hj'
      have hqt := List.mem_of_getElem? hqj
      have hmem : q ∈ l := hsub.subset hqt
      have hget : aget l q.1 = some q.2 := aget_at h.dis hmem
      obtain ⟨hst, _⟩ := hQ3.str q.1 q.2 hget
      obtain ⟨z0, z1, z2, z3⟩ := hQ3.ok q.1 q.2 hget
      have hz8 := (dchk_sz z0).2.2.2.1
      have her : (amap dfV todo).eraseIdx j = amap dfV (todo.eraseIdx j) := by unfold amap; rw [map_erase']
      rw [her] at hR5
      have hjl := (List.getElem?_eq_some_iff.1 hqj).1
      have helen : (todo.eraseIdx j).length = todo.length - 1 := List.length_eraseIdx_of_lt hjl
      have hl4 := hR4.left
      have hlam : (amap dfV todo).length = todo.length := by simp [amap]
      have hlam5 : (amap dfV (todo.eraseIdx j)).length = todo.length - 1 := by simp [amap, helen]
      have hent : EntP Tryz.prog (.pointer (some ⟨r, 0, none⟩)) (.tuple #[byA q.1, dfV q.2]) w5 := hent
      rw [z2] at hent
      refine ⟨true, _, w5, hnx, .of_kp k5 (fun y hy => by cases hy), bsp_intro (fun _ => ?_) (fun h => by cases h)⟩
      refine ⟨q.2.d.id, q.2.d.id, q.2.d.au, q.2.d.g, q.2.d.v, q.2.d.rm, q.2.d.md, q.2.p, q.2.d.ms.length, q.2.c, q.2.d.tx, hent, fun n5 n6 W6 hW6 => ?_⟩
      have k6 : K0 w5 W6 := hW6.kk rfl
      have b6 := hW6.cells 0 rfl
      have b5 := hW6.cells 1 rfl
      have g5 : w5.heap.size ≤ n5 := hW6.fresh 1 rfl rfl
      have g6 : w5.heap.size ≤ n6 := hW6.fresh 0 rfl rfl
      have k35 : Kp (fun k => k = r ∨ k = n3) w3 w5 := k4.trans (k5.mono fun _ _ h => .inl h)
      have s35 := k35.size
      have hst5 : RowA auC 16 w5 q.2.p q.2.d.ms := fun jj z hz => by
        obtain ⟨gb, go, hp, hat⟩ := hst jj z hz
        obtain ⟨_, _, hp2, hat2⟩ := (h.str q.1 q.2 hget).1 jj z hz
        rw [hp] at hp2
        cases hp2
        have hlt : gb < w.heap.size := cell_lt (hat2.cell (j := 0) (v := .int .u8 (z 0)) rfl)
        refine ⟨gb, go, hp, ⟨At_of _ _ fun ji v hv => k35.cell' (hat.cell hv) (fun e => by omega)⟩⟩
      have hN5 : Reg w5 n4 n3 A lc := hN4.kpC k5 (fun e => by omega) (fun g o v e => by have e : g = r := e; rw [e]; exact hR4.no_cell) (fun g c t f e => by have e : g = r := e; rw [e]; exact hR4.no_cells)
      have hc2 : ∀ wx, K0 W6 wx → wx.cell? ⟨n4, 0 + 2, none⟩ = some (.map (some n3)) := fun wx k => (k6.trans k).cell' hN5.cellM (fun h => h)
      refine ⟨fun wx => K0 W6 wx, .refl _ _, some n3, hc2, q.2.d.id, fun wx k => AtL_block (k.blk b5 (fun h => h)) rfl, q.2.d.id, q.2.d.au, q.2.d.g, q.2.d.v, q.2.d.rm, q.2.d.md, q.2.p, q.2.d.ms.length, q.2.c, q.2.d.tx, fun wx k => AtL_block (k.blk b6 (fun h => h)) rfl, ?_⟩
      refine ⟨(dclone_any q.2 W6 (hst5.k0 k6) (by omega)).mono fun e w7 ⟨⟨p', c', he, ho⟩, k7⟩ => ⟨_, _, _, _, _, _, _, _, _, _, he, k7, ?_⟩⟩
      have hMO : MO w7 W6.heap.size ⟨q.2.d, p', c'⟩ := ho
      have k67 := k6.trans k7
      have hfr : ∀ g o, p' = some ⟨g, o, none⟩ → n4 < g := fun g o hg => by
        have := own_ge ho (k := g) (by rw [hg]; rfl)
        have := k6.size
        have := k3.size
        omega
      obtain ⟨w9, hu, hN9, k9⟩ := (hN5.k0 k67).upd ⟨q.2.d, p', c'⟩ hMO.row hfr ⟨z0, own_le hMO, z3⟩
      have hnew : ∀ p ∈ lc, p.1 ≠ q.1 := fun p hp => hkn p hp q hqt
      have hnew' : ∀ p ∈ lc, p.1 ≠ idI q.2.d.id := by rw [← z2]; exact hnew
      have hR9 := (hR5.kp k67 (fun h => h) (fun h => h)).kp k9 (fun e => by have := kN.size; omega) (fun e => by omega)
      have hag := aset_new (v := (⟨q.2.d, p', c'⟩ : DX)) hnew'
      refine ⟨w9, hu, .of_kp ((k7.mono fun _ _ h => h.elim).trans k9) (fun y hy e => ?_), ⟨todo.eraseIdx j, aset lc (idI q.2.d.id) ⟨q.2.d, p', c'⟩, rfl, hR9, (List.eraseIdx_sublist _ _).trans hsub, ?_, fun a x hx => ?_, fun p hp q' hq' => ?_, hN9, (k35.trans (k67.mono fun _ _ h => h.elim)).trans (k9.mono fun _ _ h => .inr h)⟩, ?_⟩
      · have e : y = n3 := e
        have := k3.size
        simp only [List.mem_cons, List.not_mem_nil, or_false] at hy
        rcases hy with hy | hy <;> omega
      · rw [hag, helen, List.length_append]; simp only [List.length_cons, List.length_nil]; omega
      · rw [aget_aset] at hx
        split at hx
        · rename_i e
          cases hx
          exact ⟨q.2, by rw [← e, ← z2]; exact hget, rfl⟩
        · exact hrel a x hx
      · rw [hag] at hp
        rcases List.mem_append.1 hp with hp | hp
        · exact hkn p hp q' ((List.eraseIdx_sublist _ _).subset hq')
        · simp at hp
          subst hp
          show idI q.2.d.id ≠ q'.1
          rw [← z2]
          exact erase_ne (h.dis.sublist hsub) hqj q' hq'
      · show leftN w9 r mb < leftN w4 r mb
        rw [hl4, hlam, hR9.left, hlam5]; omega

end Go.Proofs.YtkkfnlehlkiejaaGreatDoor

/- Chapter 21: the contract of a registry's Equal. -/
namespace Go.Proofs.YtkkfnlehlkiejaaGreatDoor
open Go.RowKit Go.Sort Go.Maps

def okM (l2 : List (List Int × DX)) (p : List Int × DX) : Bool := match aget l2 p.1 with | some y => dEq p.2.d y.d | none => false
def eqM (l1 l2 : List (List Int × DX)) : Bool := decide (l1.length = l2.length) && l1.all (okM l2)
set_option maxRecDepth 100000 in
set_option maxHeartbeats 4000000 in
theorem mapeq_any {w : World} {b1 m1 b2 m2 : Nat} {A : List Au} {l1 l2 : List (List Int × DX)} (h1 : Reg w b1 m1 A l1) (h2 : Reg w b2 m2 A l2) :
    Calls Tryz.prog 64 #[.map (some m1), .map (some m2), .func (.func 27) #[] #[]] w fun e w' => e = .returned (.bool (eqM l1 l2)) ∧ K0 w w' := by
  refine vc_mapeq (some m1) (some m2) 27 #[] #[] w _ ⟨_, h1.len, _, h2.len, bsp_intro (fun h => ?_) (fun h => ?_)⟩
  · have h : ¬ l1.length = l2.length := fun e => by rw [e] at h; simp at h
    refine ⟨?_, .refl _ _⟩
    unfold eqM
    rw [decide_eq_false h]; rfl
  have hle : l1.length = l2.length := by simp at h; omega
  obtain ⟨r, w1, hrun, hR, k1, gr, rlt⟩ := h1.map.range (t := 96) Tryz.underlying96
  have hm1 := h1.map.lt
  have hm2 := h2.map.lt
  refine ⟨r, w1, hrun, .of_k0 k1, ?_⟩
  refine ⟨fun vs w' => ∃ todo : List (List Int × DX), vs = [] ∧ RngB byA w' r m1 (amap dfV todo) ∧ todo.Sublist l1 ∧ l1.all (okM l2) = todo.all (okM l2) ∧ Kp (· = r) w1 w',
    fun _ w' => leftN w' r m1, ⟨l1, rfl, hR, .refl _, rfl, .refl _ _⟩, ?_⟩
  rintro w4 ⟨todo, _, hR4, hsub, hall, k4⟩
  have kw4 : K0 w w4 := k1.fresh k4 (fun j hj e => by omega)
  rcases hR4.next (P := Tryz.prog) with ⟨hnil, hnx⟩ | ⟨j, q, w5, hj, hnx, hent, hR5, k5⟩
  · have htodo : todo = [] := by
      cases todo with
      | nil => rfl
      | cons x t => simp [amap] at hnil
    subst htodo
    refine ⟨false, [], w4, hnx, .of_k0 (.refl _ _), bsp_intro (fun h => by cases h) (fun _ => ⟨?_, kw4⟩)⟩
    unfold eqM
    rw [hall, decide_eq_true hle]; rfl
  · have hj' : ((todo.map fun p => (p.1, dfV p.2)))[j]? = some q := hj
    rw [List.getElem?_map, Option.map_eq_some_iff] at hj'
    obtain ⟨q, hqj, rfl⟩ := hj'
    have hqt := List.mem_of_getElem? hqj
    have hmem : q ∈ l1 := hsub.subset hqt
    have hget : aget l1 q.1 = some q.2 := aget_at h1.dis hmem
    obtain ⟨z0, z1, z2, z3⟩ := h1.ok q.1 q.2 hget
    have hz8 := (dchk_sz z0).2.2.2.1
    have her : (amap dfV todo).eraseIdx j = amap dfV (todo.eraseIdx j) := by unfold amap; rw [map_erase']
    rw [her] at hR5
    have hjl := (List.getElem?_eq_some_iff.1 hqj).1
    have helen : (todo.eraseIdx j).length = todo.length - 1 := List.length_eraseIdx_of_lt hjl
    have hl4 := hR4.left
    have hlam : (amap dfV todo).length = todo.length := by simp [amap]
    have hlam5 : (amap dfV (todo.eraseIdx j)).length = todo.length - 1 := by simp [amap, helen]
    have kw5 : K0 w w5 := kw4.fresh k5 (fun j hj e => by omega)
    have hall2 : todo.all (okM l2) = (okM l2 q && (todo.eraseIdx j).all (okM l2)) := by
      have := (erase_perm todo j q hqj).all_eq (f := okM l2)
      rw [← this]; rfl
    have hfalse : okM l2 q = false → eqM l1 l2 = false := fun h => by
      unfold eqM
      rw [hall, hall2, h]; simp
    have hent : EntP Tryz.prog (.pointer (some ⟨r, 0, none⟩)) (.tuple #[byA q.1, dfV q.2]) w5 := hent
    rw [z2] at hent
    refine ⟨true, _, w5, hnx, .of_kp k5 (fun y hy => by cases hy), bsp_intro (fun _ => ?_) (fun h => by cases h)⟩
    refine ⟨q.2.d.id, q.2.d.id, q.2.d.au, q.2.d.g, q.2.d.v, q.2.d.rm, q.2.d.md, q.2.p, q.2.d.ms.length, q.2.c, q.2.d.tx, hent, fun n5 n6 => ?_⟩
    have hlk : ∀ W, K0 w W → LookP Tryz.prog 96 (.map (some m2)) (.agg (arrI .u8 q.2.d.id 32 0).toArray) true (.tuple #[dfV ((aget l2 q.1).getD dxz), .bool (aget l2 q.1).isSome]) W := fun W k => by
      rw [z2]; exact (h2.k0 k).look z3.id
    cases hg2 : aget l2 q.1 with
    | none =>
      have hok : okM l2 q = false := by unfold okM; rw [hg2]
      refine ⟨_, _, _, _, _, _, _, _, _, _, false, fun W hW => by have := hlk W (kw5.trans (hW.kk rfl)); rw [hg2] at this; exact this, fun n7 W hW => bsp_intro (fun h => by cases h) (fun _ => ⟨.of_k0 (.refl _ _), by rw [hfalse hok], kw5.trans (hW.kk rfl)⟩)⟩
    | some y =>
      have hok : okM l2 q = dEq q.2.d y.d := by unfold okM; rw [hg2]
      refine ⟨_, _, _, _, _, _, _, _, _, _, true, fun W hW => by have := hlk W (kw5.trans (hW.kk rfl)); rw [hg2] at this; exact this, fun n7 W hW => bsp_intro (fun _ => ?_) (fun h => by cases h)⟩
      have kW : K0 w5 W := hW.kk rfl
      refine ⟨27, #[], #[], rfl, by kernel_rfl, ?_⟩
      refine ⟨(dequal_any q.2 y W ((h1.str q.1 q.2 hget).1.k0 (kw5.trans kW)) ((h2.str q.1 y hg2).1.k0 (kw5.trans kW)) z3 (h2.ok q.1 y hg2).2.2.2 (by omega)).mono fun e w8 ⟨he, k8⟩ => ⟨_, he, .of_k0 k8, bsp_intro (fun h => ?_) (fun h => ?_)⟩⟩
      · have h : dEq q.2.d y.d = false := by simpa using h
        exact ⟨by rw [hfalse (hok.trans h)], (kw5.trans kW).trans k8⟩
      · have h : dEq q.2.d y.d = true := by simpa using h
        have hR8 := (hR5.kp kW (fun h => h) (fun h => h)).kp k8 (fun h => h) (fun h => h)
        refine ⟨⟨todo.eraseIdx j, rfl, hR8, (List.eraseIdx_sublist _ _).trans hsub, ?_, ((k4.trans k5).trans (kW.mono fun _ _ h => h.elim)).trans (k8.mono fun _ _ h => h.elim)⟩, ?_⟩
        · rw [hall, hall2, hok, h]; rfl
        · show leftN w8 r m1 < leftN w4 r m1
          rw [hl4, hlam, hR8.left, hlam5]; omega
set_option maxRecDepth 100000 in
theorem requal_any {w : World} {b1 m1 b2 m2 : Nat} {A : List Au} {l1 l2 : List (List Int × DX)} (h1 : Reg w b1 m1 A l1) (h2 : Reg w b2 m2 A l2) (hA : A.length ≤ 64) (hs : ∀ x ∈ A, x.pt.size ≤ 1073741824) :
    Calls Tryz.prog 41 #[.pointer (some ⟨b1, 0, none⟩), .pointer (some ⟨b2, 0, none⟩)] w fun e w' => e = .returned (.bool (eqM l1 l2)) ∧ K0 w w' := by
  obtain ⟨ap, ac, lp, lc, c1, r1, _⟩ := h1.st
  obtain ⟨ap2, ac2, lp2, lc2, c2, r2, _⟩ := h2.st
  refine vc_requal (some ⟨b1, 0, none⟩) (some ⟨b2, 0, none⟩) w _ (bsp_intro (fun h => by cases h) (fun _ => fun W hW => ?_))
  have kW : K0 w W := hW.kk rfl
  have c1 := kW.blk c1 (fun h => h)
  have c2 := kW.blk c2 (fun h => h)
  refine ⟨fun wx => K0 W wx, .refl _ _, nn_is rfl ⟨ap, A.length, ac, fun wx k => cell_at (k.blk c1 (fun h => h)) rfl, nn_is rfl ⟨ap2, A.length, ac2, fun wx k => cell_at (k.blk c2 (fun h => h)) rfl, ?_⟩⟩⟩
  refine ⟨(aueq_any A ap ac ap2 ac2 W (r1.k0 kW) (r2.k0 kW) h1.au hs hA).mono fun e w1 ⟨he, k1⟩ => ⟨_, he, k1, nn_is rfl ⟨some m1, gimp_intro fun _ wx k => cell_at (k.blk c1 (fun h => h)) rfl, nn_is rfl ⟨some m2, gimp_intro fun _ wx k => cell_at (k.blk c2 (fun h => h)) rfl, bsp_intro (fun _ => ?_) (fun h => by cases h)⟩⟩⟩⟩
  exact ⟨(mapeq_any (h1.k0 (kW.trans k1)) (h2.k0 (kW.trans k1))).mono fun e w2 ⟨he, k2⟩ => ⟨_, he, .of_k0 (k1.trans k2), rfl, (kW.trans k1).trans k2⟩⟩
theorem requal_nil (p : Option Addr) (w : World) : Calls Tryz.prog 41 #[.pointer p, .pointer none] w fun e w' => e = .returned (.bool p.isNone) ∧ K0 w w' :=
  vc_requal p none w _ (bsp_intro (fun _ => ⟨by cases p <;> rfl, .refl _ _⟩) (fun h => by cases p <;> cases h))
theorem rclone_nil (w : World) : Calls Tryz.prog 42 #[.pointer none] w fun e w' => e = .returned (.pointer none) ∧ K0 w w' :=
  vc_rclone none w _ (bsp_intro (fun _ => ⟨rfl, .refl _ _⟩) (fun h => by cases h))

/-! ### Plain -/
section
variable {l1 l2 l3 : List (List Int × DX)}
theorem EqM.eq (h : EqM l1 l2) (hd : l1.Pairwise fun p q => p.1 ≠ q.1) : eqM l1 l2 = true := by
  unfold eqM
  rw [decide_eq_true h.1, Bool.true_and, List.all_eq_true]
  intro p hp
  obtain ⟨y, hy, e⟩ := h.2 p.1 p.2 (aget_at hd hp)
  unfold okM
  rw [hy]
  exact dEq_iff.2 (by rw [e])
theorem eqM_len (h : l1.length ≠ l2.length) : eqM l1 l2 = false := by
  unfold eqM
  rw [decide_eq_false h]; rfl
theorem EqM.refl (l : List (List Int × DX)) : EqM l l := ⟨rfl, fun _ x hx => ⟨x, hx, rfl⟩⟩
end

end Go.Proofs.YtkkfnlehlkiejaaGreatDoor

/- The formulas of functions by the symbolic evaluator, and that each gives the call's contract. Written by a program (gen.py). No condition. -/
namespace Go.Proofs.YtkkfnlehlkiejaaGreatDoor
set_option maxRecDepth 100000
set_option linter.unusedVariables false

end Go.Proofs.YtkkfnlehlkiejaaGreatDoor

/- Chapter 21: RegistryDrops on worlds. No condition but what a reading gives. -/
namespace Go.Proofs.YtkkfnlehlkiejaaGreatDoor
open Go.RowKit Go.Maps

theorem nodup_perm {α : Type} [DecidableEq α] : ∀ {l1 l2 : List α}, l1.Nodup → (∀ x ∈ l1, x ∈ l2) → ∃ r, (l1 ++ r).Perm l2
  | [], l2, _, _ => ⟨l2, .refl _⟩
  | a :: t, l2, hn, hs => by
    have hn' := List.nodup_cons.1 hn
    have ha := hs a List.mem_cons_self
    obtain ⟨r, hr⟩ := nodup_perm (l1 := t) (l2 := l2.erase a) hn'.2 (fun x hx => (List.mem_erase_of_ne (fun e => hn'.1 (by rw [← e]; exact hx))).2 (hs x (List.mem_cons_of_mem _ hx)))
    exact ⟨r, ((hr.cons a).trans (List.perm_cons_erase ha).symm)⟩
section
variable {l1 l2 : List (List Int × DX)}
theorem EqM.symm (h : EqM l1 l2) (hd1 : l1.Pairwise fun p q => p.1 ≠ q.1) : EqM l2 l1 := by
  have hn : (l1.map fun p => p.1).Nodup := by show List.Pairwise _ _; rw [List.pairwise_map]; exact hd1
  have hs : ∀ a ∈ l1.map (fun p => p.1), a ∈ l2.map fun p => p.1 := fun a ha => by
    obtain ⟨p, hp, rfl⟩ := List.mem_map.1 ha
    obtain ⟨y, hy, _⟩ := h.2 p.1 p.2 (aget_at hd1 hp)
    exact List.mem_map.2 ⟨_, aget_mem hy, rfl⟩
  obtain ⟨r, hr⟩ := nodup_perm hn hs
  have hrn : r = [] := by
    have := hr.length_eq
    rw [List.length_append, List.length_map, List.length_map, h.1] at this
    exact List.eq_nil_of_length_eq_zero (by omega)
  rw [hrn, List.append_nil] at hr
  refine ⟨h.1.symm, fun a y hy => ?_⟩
  have ha : a ∈ l1.map fun p => p.1 := hr.symm.subset (List.mem_map.2 ⟨_, aget_mem hy, rfl⟩)
  obtain ⟨p, hp, e⟩ := List.mem_map.1 ha
  have hx := aget_at hd1 hp
  rw [e] at hx
  obtain ⟨y', hy', e'⟩ := h.2 a p.2 hx
  rw [hy] at hy'
  cases hy'
  exact ⟨p.2, hx, e'.symm⟩
end
theorem Reg.kpM {w w' : World} {b mb m : Nat} {A : List Au} {l : List (List Int × DX)} {es : Array MapEntry} {c : Nat} (h : Reg w b mb A l) (hk : Kp (· = m) w w') (hm : w.heap[m]? = some (.map es c)) (hne : mb ≠ m) : Reg w' b mb A l := by
  refine ⟨?_, h.map.kp hk (fun e => hne e), fun a x hx => ⟨(h.str a x hx).1.kpM hk hm, (h.str a x hx).2⟩, h.ok, h.au⟩
  obtain ⟨ap, ac, lp, lc, h1, h2, h3⟩ := h.st
  refine ⟨ap, ac, lp, lc, hk.blk h1 (fun e => by have e : b = m := e; subst e; rw [hm] at h1; cases h1), h2.kpM hk hm, fun k x hx => ?_⟩
  obtain ⟨g, o, lb, es, a1, a2, a3, a4⟩ := h3 k x hx
  exact ⟨g, o, lb, es, a1, hk.cell' a2 (fun e => cell_ne_map a2 hm e), a3, a4.kpT hk (fun k c t f e hh => by have e : k = m := e; subst e; rw [hm] at hh; cases hh)⟩
end Go.Proofs.YtkkfnlehlkiejaaGreatDoor

/- The formulas of functions by the symbolic evaluator, and that each gives the call's contract. Written by a program (gen.py). No condition. -/
namespace Go.Proofs.YtkkfnlehlkiejaaGreatDoor
set_option maxRecDepth 100000
set_option linter.unusedVariables false

def VC_naddd (id : Nat → Int) (au : Nat → Int) (g : ByteArray) (v : Int) (rm : Bool) (md : Bool) (p : Option Addr) (n : Nat) (c : Nat) (t : ByteArray) (w : World) (R : Ending → World → Prop) : Prop :=
 ∀ (n_1 : Nat) (W : World),
 Loc w.heap.size
 [Blk.mk n_1 56
 (arrI IntKind.u8 id 32 0 ++ (arrI IntKind.u8 au 16 0 ++ [Value.string g,
 Value.int IntKind.i64 v, Value.bool rm, Value.bool md, Value.slice p n c, Value.string t]))
 2]
 w W →
 R (Ending.returned (Value.int IntKind.i64 1)) W
theorem vc_naddd (id : Nat → Int) (au : Nat → Int) (g : ByteArray) (v : Int) (rm : Bool) (md : Bool) (p : Option Addr) (n : Nat) (c : Nat) (t : ByteArray) (w : World) (R : Ending → World → Prop) (h : VC_naddd id au g v rm md p n c t w R) : Calls Tryz.prog 22 ([Value.pointer
    none,
  Value.agg
    (arrI IntKind.u8 id 32 0 ++
        (arrI IntKind.u8 au 16 0 ++
          [Value.string g, Value.int IntKind.i64 v, Value.bool rm, Value.bool md, Value.slice p n c,
            Value.string t])).toArray] : List Value).toArray w R := by
  have e : execR2 { P := Tryz.prog, loops := [], pur := pur1, tails := [(8, 10), (13, 7)], joins := [], boxes := [] } Tryz.f22.results.toList R (Tryz.f22.body.getD .skip) (initF [Value.pointer
    none,
  Value.agg
    (arrI IntKind.u8 id 32 0 ++
        (arrI IntKind.u8 au 16 0 ++
          [Value.string g, Value.int IntKind.i64 v, Value.bool rm, Value.bool md, Value.slice p n c,
            Value.string
              t])).toArray] (Tryz.f22.ntmps - ([Value.pointer none,
  Value.agg
    (arrI IntKind.u8 id 32 0 ++
        (arrI IntKind.u8 au 16 0 ++
          [Value.string g, Value.int IntKind.i64 v, Value.bool rm, Value.bool md, Value.slice p n c,
            Value.string t])).toArray] : List Value).length)) w = VC_naddd id au g v rm md p n c t w R := by kernel_rfl
  have hb : Tryz.f22.body = some (Tryz.f22.body.getD .skip) := by kernel_rfl
  exact calls_of_exec2' (P := Tryz.prog) (fn := Tryz.f22) (c := Tryz.f22.body.getD .skip) (args := [Value.pointer none,
  Value.agg
    (arrI IntKind.u8 id 32 0 ++
        (arrI IntKind.u8 au 16 0 ++
          [Value.string g, Value.int IntKind.i64 v, Value.bool rm, Value.bool md, Value.slice p n c,
            Value.string t])).toArray]) (w := w) (R := R) pur1_ok Tryz.func22 hb e h

def VC_ndrop (i : Nat → Int) (w : World) (R : Ending → World → Prop) : Prop :=
 ∀ (n : Nat) (W : World),
 Loc w.heap.size
 [Blk.mk n 52
 (arrI IntKind.u8 i 32 0)
 2]
 w W →
 R (Ending.returned (Value.int IntKind.i64 1)) W
theorem vc_ndrop (i : Nat → Int) (w : World) (R : Ending → World → Prop) (h : VC_ndrop i w R) : Calls Tryz.prog 43 ([Value.pointer
    none,
  Value.agg (arrI IntKind.u8 i 32 0).toArray] : List Value).toArray w R := by
  have e : execR2 { P := Tryz.prog, loops := [], pur := pur1, tails := [(3, 9), (6, 5)], joins := [], boxes := [] } Tryz.f43.results.toList R (Tryz.f43.body.getD .skip) (initF [Value.pointer
    none,
  Value.agg
    (arrI IntKind.u8 i 32
        0).toArray] (Tryz.f43.ntmps - ([Value.pointer none,
  Value.agg (arrI IntKind.u8 i 32 0).toArray] : List Value).length)) w = VC_ndrop i w R := by kernel_rfl
  have hb : Tryz.f43.body = some (Tryz.f43.body.getD .skip) := by kernel_rfl
  exact calls_of_exec2' (P := Tryz.prog) (fn := Tryz.f43) (c := Tryz.f43.body.getD .skip) (args := [Value.pointer none,
  Value.agg (arrI IntKind.u8 i 32 0).toArray]) (w := w) (R := R) pur1_ok Tryz.func43 hb e h

def VC_ncur (s : ByteArray) (w : World) (R : Ending → World → Prop) : Prop :=
 ∀ (n : Nat) (W : World),
 Loc w.heap.size
 [Blk.mk n 56
 [Value.int IntKind.u8 0, Value.int IntKind.u8 0, Value.int IntKind.u8 0, Value.int IntKind.u8 0,
 Value.int IntKind.u8 0, Value.int IntKind.u8 0, Value.int IntKind.u8 0, Value.int IntKind.u8 0,
 Value.int IntKind.u8 0, Value.int IntKind.u8 0, Value.int IntKind.u8 0, Value.int IntKind.u8 0,
 Value.int IntKind.u8 0, Value.int IntKind.u8 0, Value.int IntKind.u8 0, Value.int IntKind.u8 0,
 Value.int IntKind.u8 0, Value.int IntKind.u8 0, Value.int IntKind.u8 0, Value.int IntKind.u8 0,
 Value.int IntKind.u8 0, Value.int IntKind.u8 0, Value.int IntKind.u8 0, Value.int IntKind.u8 0,
 Value.int IntKind.u8 0, Value.int IntKind.u8 0, Value.int IntKind.u8 0, Value.int IntKind.u8 0,
 Value.int IntKind.u8 0, Value.int IntKind.u8 0, Value.int IntKind.u8 0, Value.int IntKind.u8 0,
 Value.int IntKind.u8 0, Value.int IntKind.u8 0, Value.int IntKind.u8 0, Value.int IntKind.u8 0,
 Value.int IntKind.u8 0, Value.int IntKind.u8 0, Value.int IntKind.u8 0, Value.int IntKind.u8 0,
 Value.int IntKind.u8 0, Value.int IntKind.u8 0, Value.int IntKind.u8 0, Value.int IntKind.u8 0,
 Value.int IntKind.u8 0, Value.int IntKind.u8 0, Value.int IntKind.u8 0, Value.int IntKind.u8 0,
 Value.string (ByteArray.mk #[]), Value.int IntKind.i64 0, Value.bool false, Value.bool false,
 Value.slice none 0 0, Value.string (ByteArray.mk #[])]
 2]
 w W →
 CallsS Tryz.prog 31 #[Value.pointer none, Value.string s] W fun (e : Ending) (w' : World) =>
 ∃ (p : Option Addr),
 ∃ (n_1 : Nat),
 ∃ (c : Nat),
 e = Ending.returned (Value.slice p n_1 c) ∧
 KeptL [n] W w' ∧
 nn (!(↑n_1 : Int) == 0) p fun (b o : Nat) =>
 gimp (!(↑n_1 : Int) == 0) ((0 : Int) ≤ 0 ∧ 0 < (↑n_1 : Int)) ∧
 ∃ (x : Bool),
 gimp (!(↑n_1 : Int) == 0) (w'.cell? (Addr.mk b (o + 50) none) = some (Value.bool x)) ∧
 bsp ((↑n_1 : Int) == 0 || x)
 (∀ (W : World),
 Loc w.heap.size
 [Blk.mk n 56
 [Value.int IntKind.u8 0, Value.int IntKind.u8 0, Value.int IntKind.u8 0, Value.int IntKind.u8 0,
 Value.int IntKind.u8 0, Value.int IntKind.u8 0, Value.int IntKind.u8 0, Value.int IntKind.u8 0,
 Value.int IntKind.u8 0, Value.int IntKind.u8 0, Value.int IntKind.u8 0, Value.int IntKind.u8 0,
 Value.int IntKind.u8 0, Value.int IntKind.u8 0, Value.int IntKind.u8 0, Value.int IntKind.u8 0,
 Value.int IntKind.u8 0, Value.int IntKind.u8 0, Value.int IntKind.u8 0, Value.int IntKind.u8 0,
 Value.int IntKind.u8 0, Value.int IntKind.u8 0, Value.int IntKind.u8 0, Value.int IntKind.u8 0,
 Value.int IntKind.u8 0, Value.int IntKind.u8 0, Value.int IntKind.u8 0, Value.int IntKind.u8 0,
 Value.int IntKind.u8 0, Value.int IntKind.u8 0, Value.int IntKind.u8 0, Value.int IntKind.u8 0,
 Value.int IntKind.u8 0, Value.int IntKind.u8 0, Value.int IntKind.u8 0, Value.int IntKind.u8 0,
 Value.int IntKind.u8 0, Value.int IntKind.u8 0, Value.int IntKind.u8 0, Value.int IntKind.u8 0,
 Value.int IntKind.u8 0, Value.int IntKind.u8 0, Value.int IntKind.u8 0, Value.int IntKind.u8 0,
 Value.int IntKind.u8 0, Value.int IntKind.u8 0, Value.int IntKind.u8 0, Value.int IntKind.u8 0,
 Value.string (ByteArray.mk #[]), Value.int IntKind.i64 0, Value.bool false, Value.bool false,
 Value.slice none 0 0, Value.string (ByteArray.mk #[])]
 (wrM 0)]
 w' W →
 R
 (Ending.returned
 (Value.tuple
 #[Value.agg
 #[Value.int IntKind.u8 0, Value.int IntKind.u8 0, Value.int IntKind.u8 0, Value.int IntKind.u8 0,
 Value.int IntKind.u8 0, Value.int IntKind.u8 0, Value.int IntKind.u8 0, Value.int IntKind.u8 0,
 Value.int IntKind.u8 0, Value.int IntKind.u8 0, Value.int IntKind.u8 0, Value.int IntKind.u8 0,
 Value.int IntKind.u8 0, Value.int IntKind.u8 0, Value.int IntKind.u8 0, Value.int IntKind.u8 0,
 Value.int IntKind.u8 0, Value.int IntKind.u8 0, Value.int IntKind.u8 0, Value.int IntKind.u8 0,
 Value.int IntKind.u8 0, Value.int IntKind.u8 0, Value.int IntKind.u8 0, Value.int IntKind.u8 0,
 Value.int IntKind.u8 0, Value.int IntKind.u8 0, Value.int IntKind.u8 0, Value.int IntKind.u8 0,
 Value.int IntKind.u8 0, Value.int IntKind.u8 0, Value.int IntKind.u8 0, Value.int IntKind.u8 0,
 Value.int IntKind.u8 0, Value.int IntKind.u8 0, Value.int IntKind.u8 0, Value.int IntKind.u8 0,
 Value.int IntKind.u8 0, Value.int IntKind.u8 0, Value.int IntKind.u8 0, Value.int IntKind.u8 0,
 Value.int IntKind.u8 0, Value.int IntKind.u8 0, Value.int IntKind.u8 0, Value.int IntKind.u8 0,
 Value.int IntKind.u8 0, Value.int IntKind.u8 0, Value.int IntKind.u8 0, Value.int IntKind.u8 0,
 Value.string (ByteArray.mk #[]), Value.int IntKind.i64 0, Value.bool false, Value.bool false,
 Value.slice none 0 0, Value.string (ByteArray.mk #[])],
 Value.bool false]))
 W)
 (nn true p fun (b o : Nat) =>
 ((0 : Int) ≤ 0 ∧ 0 < (↑n_1 : Int)) ∧
 ∃ (f : Nat → Int),
 ∃ (f_1 : Nat → Int),
 ∃ (x : ByteArray),
 ∃ (x_1 : Int),
 ∃ (x_2 : Bool),
 ∃ (x_3 : Bool),
 ∃ (p : Option Addr),
 ∃ (n_2 : Nat),
 ∃ (c : Nat),
 ∃ (x_4 : ByteArray),
 AtL w' b o
 (arrI IntKind.u8 f 32 0 ++ (arrI IntKind.u8 f_1 16 0 ++ [Value.string x, Value.int IntKind.i64 x_1, Value.bool x_2, Value.bool x_3,
 Value.slice p n_2 c, Value.string x_4])) ∧
 ∀ (W : World),
 Loc w.heap.size
 [Blk.mk n 56
 (arrI IntKind.u8 f 32 0 ++ (arrI IntKind.u8 f_1 16 0 ++ [Value.string x, Value.int IntKind.i64 x_1,
 Value.bool x_2, Value.bool x_3, Value.slice p n_2 c, Value.string x_4]))
 (wrM 0)]
 w' W →
 R
 (Ending.returned
 (Value.tuple
 #[Value.agg
 (arrI IntKind.u8 f 32 0 ++ (arrI IntKind.u8 f_1 16 0 ++ [Value.string x,
 Value.int IntKind.i64 x_1, Value.bool x_2, Value.bool x_3, Value.slice p n_2 c,
 Value.string x_4])).toArray,
 Value.bool true]))
 W)
theorem vc_ncur (s : ByteArray) (w : World) (R : Ending → World → Prop) (h : VC_ncur s w R) : Calls Tryz.prog 29 ([Value.pointer
    none,
  Value.string s] : List Value).toArray w R := by
  have e : execR2 { P := Tryz.prog, loops := [], pur := pur1, tails := [], joins := [], boxes := [] } Tryz.f29.results.toList R (Tryz.f29.body.getD .skip) (initF [Value.pointer
    none,
  Value.string
    s] (Tryz.f29.ntmps - ([Value.pointer none, Value.string s] : List Value).length)) w = VC_ncur s w R := by kernel_rfl
  have hb : Tryz.f29.body = some (Tryz.f29.body.getD .skip) := by kernel_rfl
  exact calls_of_exec2' (P := Tryz.prog) (fn := Tryz.f29) (c := Tryz.f29.body.getD .skip) (args := [Value.pointer none,
  Value.string s]) (w := w) (R := R) pur1_ok Tryz.func29 hb e h

def VC_nmod (s : ByteArray) (w : World) (R : Ending → World → Prop) : Prop :=
 CallsS Tryz.prog 29 #[Value.pointer none, Value.string s] w fun (e : Ending) (w' : World) =>
 ∃ (f : Nat → Int),
 ∃ (f_1 : Nat → Int),
 ∃ (x : ByteArray),
 ∃ (x_1 : Int),
 ∃ (x_2 : Bool),
 ∃ (x_3 : Bool),
 ∃ (p : Option Addr),
 ∃ (n : Nat),
 ∃ (c : Nat),
 ∃ (x_4 : ByteArray),
 ∃ (x_5 : Bool),
 e =
 Ending.returned
 (Value.tuple
 #[Value.agg
 (arrI IntKind.u8 f 32 0 ++ (arrI IntKind.u8 f_1 16 0 ++ [Value.string x, Value.int IntKind.i64 x_1, Value.bool x_2, Value.bool x_3, Value.slice p n c,
 Value.string x_4])).toArray,
 Value.bool x_5]) ∧
 KeptL [] w w' ∧
 ∀ (n_1 : Nat),
 ∃ (x_6 : Bool),
 gimp x_5
 (∀ (W : World),
 Loc w.heap.size
 [Blk.mk n_1 56
 (arrI IntKind.u8 f 32 0 ++ (arrI IntKind.u8 f_1 16 0 ++ [Value.string x, Value.int IntKind.i64 x_1, Value.bool x_2, Value.bool x_3, Value.slice p n c,
 Value.string x_4]))
 (wrM 2)]
 w' W →
 W.cell? (Addr.mk n_1 (0 + 51) none) = some (Value.bool x_6)) ∧
 ∀ (W : World),
 Loc w.heap.size
 [Blk.mk n_1 56
 (arrI IntKind.u8 f 32 0 ++ (arrI IntKind.u8 f_1 16 0 ++ [Value.string x, Value.int IntKind.i64 x_1, Value.bool x_2, Value.bool x_3, Value.slice p n c,
 Value.string x_4]))
 (wrM 2)]
 w' W →
 R (Ending.returned (Value.bool (x_5 && x_6))) W
theorem vc_nmod (s : ByteArray) (w : World) (R : Ending → World → Prop) (h : VC_nmod s w R) : Calls Tryz.prog 32 ([Value.pointer
    none,
  Value.string s] : List Value).toArray w R := by
  have e : execR2 { P := Tryz.prog, loops := [], pur := pur1, tails := [], joins := [], boxes := [] } Tryz.f32.results.toList R (Tryz.f32.body.getD .skip) (initF [Value.pointer
    none,
  Value.string
    s] (Tryz.f32.ntmps - ([Value.pointer none, Value.string s] : List Value).length)) w = VC_nmod s w R := by kernel_rfl
  have hb : Tryz.f32.body = some (Tryz.f32.body.getD .skip) := by kernel_rfl
  exact calls_of_exec2' (P := Tryz.prog) (fn := Tryz.f32) (c := Tryz.f32.body.getD .skip) (args := [Value.pointer none,
  Value.string s]) (w := w) (R := R) pur1_ok Tryz.func32 hb e h

def VC_never (s : ByteArray) (a : Nat → Int) (w : World) (R : Ending → World → Prop) : Prop :=
 ∀ (n n_1 : Nat) (W : World),
 Loc w.heap.size
 [Blk.mk n_1 53
 (arrI IntKind.u8 a 16 0)
 2,
 Blk.mk n 9 [Value.string s] 2]
 w W →
 CallsS Tryz.prog 50
 #[Value.pointer none,
 Value.func (Fn.func 51) #[] #[Value.pointer (some (Addr.mk n 0 none)), Value.pointer (some (Addr.mk n_1 0 none))]]
 W fun (e : Ending) (w' : World) =>
 ∃ (p : Option Addr),
 ∃ (n : Nat),
 ∃ (c : Nat),
 e = Ending.returned (Value.slice p n c) ∧
 KeptL [] W w' ∧ R (Ending.returned (Value.bool (decide ((↑n : Int) > 0)))) w'
theorem vc_never (s : ByteArray) (a : Nat → Int) (w : World) (R : Ending → World → Prop) (h : VC_never s a w R) : Calls Tryz.prog 20 ([Value.pointer
    none,
  Value.string s, Value.agg (arrI IntKind.u8 a 16 0).toArray] : List Value).toArray w R := by
  have e : execR2 { P := Tryz.prog, loops := [], pur := pur1, tails := [], joins := [], boxes := [] } Tryz.f20.results.toList R (Tryz.f20.body.getD .skip) (initF [Value.pointer
    none,
  Value.string s,
  Value.agg
    (arrI IntKind.u8 a 16
        0).toArray] (Tryz.f20.ntmps - ([Value.pointer none, Value.string s,
  Value.agg (arrI IntKind.u8 a 16 0).toArray] : List Value).length)) w = VC_never s a w R := by kernel_rfl
  have hb : Tryz.f20.body = some (Tryz.f20.body.getD .skip) := by kernel_rfl
  exact calls_of_exec2' (P := Tryz.prog) (fn := Tryz.f20) (c := Tryz.f20.body.getD .skip) (args := [Value.pointer none,
  Value.string s, Value.agg (arrI IntKind.u8 a 16 0).toArray]) (w := w) (R := R) pur1_ok Tryz.func20 hb e h

def VC_nisauth (s : ByteArray) (a : Nat → Int) (w : World) (R : Ending → World → Prop) : Prop :=
 ∀ (n : Nat) (W : World),
 Loc w.heap.size
 [Blk.mk n 53
 (arrI IntKind.u8 a 16 0)
 2]
 w W →
 R (Ending.returned (Value.bool false)) W
theorem vc_nisauth (s : ByteArray) (a : Nat → Int) (w : World) (R : Ending → World → Prop) (h : VC_nisauth s a w R) : Calls Tryz.prog 16 ([Value.pointer
    none,
  Value.string s, Value.agg (arrI IntKind.u8 a 16 0).toArray] : List Value).toArray w R := by
  have e : execR2 { P := Tryz.prog, loops := [(4, [(16, Ck.int IntKind.i64)])], pur := pur1, tails := [], joins := [], boxes := [] } Tryz.f16.results.toList R (Tryz.f16.body.getD .skip) (initF [Value.pointer
    none,
  Value.string s,
  Value.agg
    (arrI IntKind.u8 a 16
        0).toArray] (Tryz.f16.ntmps - ([Value.pointer none, Value.string s,
  Value.agg (arrI IntKind.u8 a 16 0).toArray] : List Value).length)) w = VC_nisauth s a w R := by kernel_rfl
  have hb : Tryz.f16.body = some (Tryz.f16.body.getD .skip) := by kernel_rfl
  exact calls_of_exec2' (P := Tryz.prog) (fn := Tryz.f16) (c := Tryz.f16.body.getD .skip) (args := [Value.pointer none,
  Value.string s, Value.agg (arrI IntKind.u8 a 16 0).toArray]) (w := w) (R := R) pur1_ok Tryz.func16 hb e h

def VC_ngroups (w : World) (R : Ending → World → Prop) : Prop :=
 CallsS Tryz.prog 50 #[Value.pointer none, Value.func (Fn.func 62) #[] #[]] w fun (e : Ending) (w' : World) =>
 ∃ (p : Option Addr),
 ∃ (n : Nat),
 ∃ (c : Nat),
 e = Ending.returned (Value.slice p n c) ∧
 KeptL [] w w' ∧
 ∃ (I : List Value → World → Prop),
 ∃ (m : List Value → World → Nat),
 I [Value.int IntKind.i64 0, Value.slice none 0 0, Value.string (ByteArray.mk #[])] w' ∧
 ∀ (x : Int) (p_1 : Option Addr) (n_1 c : Nat) (x_1 : ByteArray) (w' : World),
 I [Value.int IntKind.i64 x, Value.slice p_1 n_1 c, Value.string x_1] w' →
 bsp (decide (x < (↑n : Int)))
 (nn true p fun (b o : Nat) =>
 (0 ≤ x ∧ x < (↑n : Int)) ∧
 ∃ (f : Nat → Int),
 ∃ (f_1 : Nat → Int),
 ∃ (x_2 : ByteArray),
 ∃ (x_3 : Int),
 ∃ (x_4 : Bool),
 ∃ (x_5 : Bool),
 ∃ (p : Option Addr),
 ∃ (n : Nat),
 ∃ (c_1 : Nat),
 ∃ (x_6 : ByteArray),
 AtL w' b (o + x.toNat * 54)
 (arrI IntKind.u8 f 32 0 ++ (arrI IntKind.u8 f_1 16 0 ++ [Value.string x_2, Value.int IntKind.i64 x_3, Value.bool x_4, Value.bool x_5,
 Value.slice p n c_1, Value.string x_6])) ∧
 ∀ (n_2 : Nat),
 ∃ (x_7 : Bool),
 gimp (!x_2.toList == x_1.toList)
 (∀ (W : World),
 Loc w.heap.size
 [Blk.mk n_2 56
 (arrI IntKind.u8 f 32 0 ++ (arrI IntKind.u8 f_1 16 0 ++ [Value.string x_2,
 Value.int IntKind.i64 x_3, Value.bool x_4, Value.bool x_5, Value.slice p n c_1,
 Value.string x_6]))
 (wrM 2)]
 w' W →
 W.cell? (Addr.mk n_2 (0 + 50) none) = some (Value.bool x_7)) ∧
 bsp (!x_2.toList == x_1.toList && !x_7)
 (∀ (n_3 : Nat) (W : World),
 Loc w.heap.size
 [Blk.mk n_3 9 [Value.string x_2] 2,
 Blk.mk n_2 56
 (arrI IntKind.u8 f 32 0 ++ (arrI IntKind.u8 f_1 16 0 ++ [Value.string x_2,
 Value.int IntKind.i64 x_3, Value.bool x_4, Value.bool x_5, Value.slice p n c_1,
 Value.string x_6]))
 (wrM 2)]
 w' W →
 ∃ (base : Nat),
 ∃ (xs : List Value),
 W.ownsRow base 9 1 (Value.slice p_1 n_1 c) n_1 xs ∧
 n_1 + 1 ≤ 9223372036854775807 ∧
 (n_1 + 1) * 16 ≤ 140737488355328 ∧
 base ≤ W.heap.size ∧
 ∀ (p' : Option Addr) (c' : Nat) (w'_1 : World),
 w'_1.ownsRow base 9 1 (Value.slice p' (n_1 + 1) c') (n_1 + 1)
 (xs ++ [Value.string x_2]) →
 W.grownBy w'_1 (Value.slice p_1 n_1 c).ownBlock →
 (n_1 + 1 ≤ c → p' = p_1 ∧ c' = c) →
 KeptL [n_2] W w'_1 ∧
 I
 [Value.int IntKind.i64 (IntKind.i64.wrap (x + 1)),
 Value.slice p' (n_1 + 1) c', Value.string x_2]
 w'_1 ∧
 m
 [Value.int IntKind.i64 (IntKind.i64.wrap (x + 1)),
 Value.slice p' (n_1 + 1) c', Value.string x_2]
 w'_1 <
 m [Value.int IntKind.i64 x, Value.slice p_1 n_1 c, Value.string x_1] w')
 (∀ (W : World),
 Loc w.heap.size
 [Blk.mk n_2 56
 (arrI IntKind.u8 f 32 0 ++ (arrI IntKind.u8 f_1 16 0 ++ [Value.string x_2,
 Value.int IntKind.i64 x_3, Value.bool x_4, Value.bool x_5, Value.slice p n c_1,
 Value.string x_6]))
 (wrM 2)]
 w' W →
 I
 [Value.int IntKind.i64 (IntKind.i64.wrap (x + 1)), Value.slice p_1 n_1 c,
 Value.string x_2]
 W ∧
 m
 [Value.int IntKind.i64 (IntKind.i64.wrap (x + 1)), Value.slice p_1 n_1 c,
 Value.string x_2]
 W <
 m [Value.int IntKind.i64 x, Value.slice p_1 n_1 c, Value.string x_1] w'))
 (R (Ending.returned (Value.slice p_1 n_1 c)) w')
theorem vc_ngroups (w : World) (R : Ending → World → Prop) (h : VC_ngroups w R) : Calls Tryz.prog 37 ([Value.pointer
    none] : List Value).toArray w R := by
  have e : execR2 { P := Tryz.prog, loops := [(4, [(10, Ck.int IntKind.i64), (3, Ck.slice), (4, Ck.str)])], pur := pur1, tails := [], joins := [], boxes := [] } Tryz.f37.results.toList R (Tryz.f37.body.getD .skip) (initF [Value.pointer
    none] (Tryz.f37.ntmps - ([Value.pointer none] : List Value).length)) w = VC_ngroups w R := by kernel_rfl
  have hb : Tryz.f37.body = some (Tryz.f37.body.getD .skip) := by kernel_rfl
  exact calls_of_exec2' (P := Tryz.prog) (fn := Tryz.f37) (c := Tryz.f37.body.getD .skip) (args := [Value.pointer
    none]) (w := w) (R := R) pur1_ok Tryz.func37 hb e h

def VC_nselect (l : Option Addr) (w : World) (R : Ending → World → Prop) : Prop :=
 CallsS Tryz.prog 37 #[Value.pointer none] w fun (e : Ending) (w' : World) =>
 ∃ (p : Option Addr),
 ∃ (n : Nat),
 ∃ (c : Nat),
 e = Ending.returned (Value.slice p n c) ∧
 KeptL [] w w' ∧
 ∃ (I : List Value → World → Prop),
 ∃ (m : List Value → World → Nat),
 I [Value.int IntKind.i64 0, Value.slice none 0 0] w' ∧
 ∀ (x : Int) (p_1 : Option Addr) (n_1 c : Nat) (w' : World),
 I [Value.int IntKind.i64 x, Value.slice p_1 n_1 c] w' →
 bsp (decide (x < (↑n : Int)))
 (nn true p fun (b o : Nat) =>
 (0 ≤ x ∧ x < (↑n : Int)) ∧
 ∃ (x_1 : ByteArray),
 w'.cell? (Addr.mk b (o + x.toNat) none) = some (Value.string x_1) ∧
 CallsS Tryz.prog 46 #[Value.pointer l, Value.string x_1] w' fun (e : Ending) (w'_1 : World) =>
 ∃ (x_2 : Int),
 e = Ending.returned (Value.int IntKind.i64 x_2) ∧
 KeptL [] w' w'_1 ∧
 bsp (x_2 == 1)
 (∀ (n : Nat) (W : World),
 Loc w.heap.size [Blk.mk n 9 [Value.string x_1] 2] w'_1 W →
 ∃ (base : Nat),
 ∃ (xs : List Value),
 W.ownsRow base 9 1 (Value.slice p_1 n_1 c) n_1 xs ∧
 n_1 + 1 ≤ 9223372036854775807 ∧
 (n_1 + 1) * 16 ≤ 140737488355328 ∧
 base ≤ W.heap.size ∧
 ∀ (p' : Option Addr) (c' : Nat) (w'_2 : World),
 w'_2.ownsRow base 9 1 (Value.slice p' (n_1 + 1) c') (n_1 + 1) (xs ++ [Value.string x_1]) →
 W.grownBy w'_2 (Value.slice p_1 n_1 c).ownBlock →
 (n_1 + 1 ≤ c → p' = p_1 ∧ c' = c) →
 KeptL [] W w'_2 ∧
 I [Value.int IntKind.i64 (IntKind.i64.wrap (x + 1)), Value.slice p' (n_1 + 1) c']
 w'_2 ∧
 m [Value.int IntKind.i64 (IntKind.i64.wrap (x + 1)), Value.slice p' (n_1 + 1) c']
 w'_2 <
 m [Value.int IntKind.i64 x, Value.slice p_1 n_1 c] w')
 (I [Value.int IntKind.i64 (IntKind.i64.wrap (x + 1)), Value.slice p_1 n_1 c] w'_1 ∧
 m [Value.int IntKind.i64 (IntKind.i64.wrap (x + 1)), Value.slice p_1 n_1 c] w'_1 <
 m [Value.int IntKind.i64 x, Value.slice p_1 n_1 c] w'))
 (R (Ending.returned (Value.slice p_1 n_1 c)) w')
theorem vc_nselect (l : Option Addr) (w : World) (R : Ending → World → Prop) (h : VC_nselect l w R) : Calls Tryz.prog 39 ([Value.pointer
    none,
  Value.pointer l] : List Value).toArray w R := by
  have e : execR2 { P := Tryz.prog, loops := [(3, [(11, Ck.int IntKind.i64), (5, Ck.slice)])], pur := pur1, tails := [], joins := [], boxes := [] } Tryz.f39.results.toList R (Tryz.f39.body.getD .skip) (initF [Value.pointer
    none,
  Value.pointer
    l] (Tryz.f39.ntmps - ([Value.pointer none,
  Value.pointer l] : List Value).length)) w = VC_nselect l w R := by kernel_rfl
  have hb : Tryz.f39.body = some (Tryz.f39.body.getD .skip) := by kernel_rfl
  exact calls_of_exec2' (P := Tryz.prog) (fn := Tryz.f39) (c := Tryz.f39.body.getD .skip) (args := [Value.pointer none,
  Value.pointer l]) (w := w) (R := R) pur1_ok Tryz.func39 hb e h

def VC_nvers (s : ByteArray) (w : World) (R : Ending → World → Prop) : Prop :=
 ∀ (n : Nat) (W : World),
 Loc w.heap.size [Blk.mk n 9 [Value.string s] 2] w W →
 CallsS Tryz.prog 50 #[Value.pointer none, Value.func (Fn.func 57) #[] #[Value.pointer (some (Addr.mk n 0 none))]] W
 fun (e : Ending) (w' : World) =>
 ∃ (p : Option Addr),
 ∃ (n : Nat),
 ∃ (c : Nat), e = Ending.returned (Value.slice p n c) ∧ KeptL [] W w' ∧ R (Ending.returned (Value.slice p n c)) w'
theorem vc_nvers (s : ByteArray) (w : World) (R : Ending → World → Prop) (h : VC_nvers s w R) : Calls Tryz.prog 31 ([Value.pointer
    none,
  Value.string s] : List Value).toArray w R := by
  have e : execR2 { P := Tryz.prog, loops := [], pur := pur1, tails := [], joins := [], boxes := [] } Tryz.f31.results.toList R (Tryz.f31.body.getD .skip) (initF [Value.pointer
    none,
  Value.string
    s] (Tryz.f31.ntmps - ([Value.pointer none,
  Value.string s] : List Value).length)) w = VC_nvers s w R := by kernel_rfl
  have hb : Tryz.f31.body = some (Tryz.f31.body.getD .skip) := by kernel_rfl
  exact calls_of_exec2' (P := Tryz.prog) (fn := Tryz.f31) (c := Tryz.f31.body.getD .skip) (args := [Value.pointer none,
  Value.string s]) (w := w) (R := R) pur1_ok Tryz.func31 hb e h

def VC_nlen (w : World) (R : Ending → World → Prop) : Prop :=
 R (Ending.returned (Value.int IntKind.i64 0)) w
theorem vc_nlen (w : World) (R : Ending → World → Prop) (h : VC_nlen w R) : Calls Tryz.prog 19 ([Value.pointer
    none] : List Value).toArray w R := by
  have e : execR2 { P := Tryz.prog, loops := [], pur := pur1, tails := [], joins := [], boxes := [] } Tryz.f19.results.toList R (Tryz.f19.body.getD .skip) (initF [Value.pointer
    none] (Tryz.f19.ntmps - ([Value.pointer none] : List Value).length)) w = VC_nlen w R := by kernel_rfl
  have hb : Tryz.f19.body = some (Tryz.f19.body.getD .skip) := by kernel_rfl
  exact calls_of_exec2' (P := Tryz.prog) (fn := Tryz.f19) (c := Tryz.f19.body.getD .skip) (args := [Value.pointer
    none]) (w := w) (R := R) pur1_ok Tryz.func19 hb e h

def VC_npick (f : FuncId) (fa : Array Value) (fb : Array Value) (w : World) (R : Ending → World → Prop) : Prop :=
 R (Ending.returned (Value.slice none 0 0)) w
theorem vc_npick (f : FuncId) (fa : Array Value) (fb : Array Value) (w : World) (R : Ending → World → Prop) (h : VC_npick f fa fb w R) : Calls Tryz.prog 50 ([Value.pointer
    none,
  Value.func (Fn.func f) fa fb] : List Value).toArray w R := by
  have e : execR2 { P := Tryz.prog, loops := [(5, [(5, Ck.slice)])], pur := pur1, tails := [], joins := [], boxes := [], rngs := [(14, 96)] } Tryz.f50.results.toList R (Tryz.f50.body.getD .skip) (initF [Value.pointer
    none,
  Value.func (Fn.func f) fa
    fb] (Tryz.f50.ntmps - ([Value.pointer none,
  Value.func (Fn.func f) fa fb] : List Value).length)) w = VC_npick f fa fb w R := by kernel_rfl
  have hb : Tryz.f50.body = some (Tryz.f50.body.getD .skip) := by kernel_rfl
  exact calls_of_exec2' (P := Tryz.prog) (fn := Tryz.f50) (c := Tryz.f50.body.getD .skip) (args := [Value.pointer none,
  Value.func (Fn.func f) fa fb]) (w := w) (R := R) pur1_ok Tryz.func50 hb e h

end Go.Proofs.YtkkfnlehlkiejaaGreatDoor

/- Chapter 21: the contracts of the functions of a nil registry. -/
namespace Go.Proofs.YtkkfnlehlkiejaaGreatDoor
open Go.RowKit Go.Maps

theorem npick_any (f : FuncId) (fa fb : Array Value) (w : World) : Calls Tryz.prog 50 #[.pointer none, .func (.func f) fa fb] w fun e w' => e = .returned (.slice none 0 0) ∧ K0 w w' := vc_npick f fa fb w _ ⟨rfl, .refl _ _⟩
theorem nadd_any (x : DX) (w : World) : Calls Tryz.prog 22 #[.pointer none, dfV x] w fun e w' => e = .returned (.int .i64 1) ∧ K0 w w' :=
  vc_naddd x.d.id x.d.au x.d.g x.d.v x.d.rm x.d.md x.p x.d.ms.length x.c x.d.tx w _ (fun _ _ hW => ⟨rfl, hW.kk rfl⟩)
theorem ndrop_any (f : Nat → Int) (w : World) : Calls Tryz.prog 43 #[.pointer none, .agg (arrI .u8 f 32 0).toArray] w fun e w' => e = .returned (.int .i64 1) ∧ K0 w w' :=
  vc_ndrop f w _ (fun _ _ hW => ⟨rfl, hW.kk rfl⟩)
theorem nisauth_any (s : ByteArray) (a : Nat → Int) (w : World) : Calls Tryz.prog 16 #[.pointer none, .string s, .agg (arrI .u8 a 16 0).toArray] w fun e w' => e = .returned (.bool false) ∧ K0 w w' :=
  vc_nisauth s a w _ (fun _ _ hW => ⟨rfl, hW.kk rfl⟩)
theorem nlen_any (w : World) : Calls Tryz.prog 19 #[.pointer none] w fun e w' => e = .returned (.int .i64 0) ∧ K0 w w' := vc_nlen w _ ⟨rfl, .refl _ _⟩
theorem nvers_any (s : ByteArray) (w : World) : Calls Tryz.prog 31 #[.pointer none, .string s] w fun e w' => e = .returned (.slice none 0 0) ∧ K0 w w' :=
  vc_nvers s w _ (fun _ W hW => ⟨(npick_any _ _ _ W).mono fun _ _ ⟨he, k1⟩ => ⟨_, _, _, he, .of_k0 k1, rfl, (hW.kk rfl : K0 w W).trans k1⟩⟩)
theorem never_any (s : ByteArray) (a : Nat → Int) (w : World) : Calls Tryz.prog 20 #[.pointer none, .string s, .agg (arrI .u8 a 16 0).toArray] w fun e w' => e = .returned (.bool false) ∧ K0 w w' :=
  vc_never s a w _ (fun n n1 W hW => ⟨(npick_any _ _ _ W).mono fun e w1 ⟨he, k1⟩ => ⟨_, _, _, he, .of_k0 k1, by simp, (hW.kk rfl : K0 w W).trans k1⟩⟩)
set_option maxRecDepth 100000 in
theorem ncur_any (s : ByteArray) (w : World) : Calls Tryz.prog 29 #[.pointer none, .string s] w fun e w' => e = .returned (.tuple #[dfV dxz, .bool false]) ∧ K0 w w' := by
  refine vc_ncur s w _ (fun n W hW => ⟨(nvers_any s W).mono fun e w1 ⟨he, k1⟩ => ⟨_, _, _, he, .of_k0 k1, ?_⟩⟩)
  have kW : K0 w W := hW.kk rfl
  exact nn_off (fun b o => ⟨gimp_intro (fun h => by cases h), false, gimp_intro (fun h => by cases h), bsp_intro (fun _ => fun W2 hW2 => ⟨rfl, hW2.k0 (kW.trans k1)⟩) (fun h => by cases h)⟩)
set_option maxRecDepth 100000 in
theorem nmod_any (s : ByteArray) (w : World) : Calls Tryz.prog 32 #[.pointer none, .string s] w fun e w' => e = .returned (.bool false) ∧ K0 w w' :=
  vc_nmod s w _ ⟨(ncur_any s w).mono fun e w1 ⟨he, k1⟩ => ⟨_, _, _, _, _, _, _, _, _, _, _, he, .of_k0 k1, fun n1 => ⟨false, gimp_intro (fun h => by cases h), fun W hW => ⟨rfl, k1.trans (hW.kk rfl)⟩⟩⟩⟩
theorem ngroups_any (w : World) : Calls Tryz.prog 37 #[.pointer none] w fun e w' => e = .returned (.slice none 0 0) ∧ K0 w w' := by
  refine vc_ngroups w _ ⟨(npick_any _ _ _ w).mono fun e w1 ⟨he, k1⟩ => ⟨_, _, _, he, .of_k0 k1, fun vs w' => vs = [.int .i64 0, .slice none 0 0, .string ⟨#[]⟩] ∧ K0 w w', fun _ _ => 0, ⟨rfl, k1⟩, ?_⟩⟩
  rintro x q n c y w2 ⟨hv, k2⟩
  simp only [List.cons.injEq, Value.int.injEq, Value.slice.injEq, Value.string.injEq, true_and, and_true] at hv
  obtain ⟨rfl, ⟨rfl, rfl, rfl⟩, rfl⟩ := hv
  exact bsp_intro (fun h => by simp at h) (fun _ => ⟨rfl, k2⟩)
theorem nselect_any (l : Option Addr) (w : World) : Calls Tryz.prog 39 #[.pointer none, .pointer l] w fun e w' => e = .returned (.slice none 0 0) ∧ K0 w w' := by
  refine vc_nselect l w _ ⟨(ngroups_any w).mono fun e w1 ⟨he, k1⟩ => ⟨_, _, _, he, .of_k0 k1, fun vs w' => vs = [.int .i64 0, .slice none 0 0] ∧ K0 w w', fun _ _ => 0, ⟨rfl, k1⟩, ?_⟩⟩
  rintro x q n c w2 ⟨hv, k2⟩
  simp only [List.cons.injEq, Value.int.injEq, Value.slice.injEq, true_and, and_true] at hv
  obtain ⟨rfl, rfl, rfl, rfl⟩ := hv
  exact bsp_intro (fun h => by simp at h) (fun _ => ⟨rfl, k2⟩)

end Go.Proofs.YtkkfnlehlkiejaaGreatDoor
