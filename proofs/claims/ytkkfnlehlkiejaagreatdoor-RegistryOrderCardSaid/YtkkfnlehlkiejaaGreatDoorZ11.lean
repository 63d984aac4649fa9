/- Chapter 21: the examples of the chapter hold. The library's variable MaxLen holds a number. -/
import Derived.Test.YtkkfnlehlkiejaaGreatDoorZ10
import Derived.Test.YtkkfnlehlkiejaaGreatDoorZ05
import Derived.Test.YtkkfnlehlkiejaaGreatDoorZ08
import Derived.Lib.SplitLaws
import Derived.Lib.CountLaws
import Derived.Test.YtkkfnlehlkiejaaGreatDoorProg
import Derived.Test.YtkkfnlehlkiejaaGreatDoorZ02
import Derived.Test.YtkkfnlehlkiejaaGreatDoorZ03
import Derived.KernelRfl
import Derived.Test.YtkkfnlehlkiejaaGreatDoorZ07
namespace Go.Proofs.YtkkfnlehlkiejaaGreatDoor
open Go.RowKit Go.Maps

def kf (v : Int) : Nat → Int
  | 0 => v
  | _ + 1 => 0
theorem kf_BY {v : Int} (h : 0 ≤ v ∧ v ≤ 255) : BY (kf v) := fun j => by cases j <;> simp [kf] <;> omega
def kS : ByteArray := ⟨#[99, 111, 109, 112, 46, 111, 115]⟩
def kA : List Au := [⟨⟨#[99, 111, 109, 112, 46, 42]⟩, kf 1⟩]
def kd1 : Df := ⟨kf 1, kf 1, kS, 1, false, true, [kf 2], ⟨#[]⟩⟩
def kd2 : Df := ⟨kf 2, kf 2, kS, 1, false, false, [], ⟨#[]⟩⟩
def kd3 : Df := ⟨kf 3, kf 1, ⟨#[97, 108, 116, 46, 120]⟩, 1, false, false, [], ⟨#[]⟩⟩
def kd9 : Df := ⟨kf 9, kf 1, kS, 2, true, false, [], ⟨#[]⟩⟩
def kd8 : Df := ⟨kf 8, kf 1, kS, 2, false, false, [], ⟨#[120]⟩⟩
theorem k_new : newE kA 0 = (0, 0) := by decide +kernel
theorem k_c1 : dchk kd1 = 0 := by decide +kernel
theorem k_c2 : dchk kd2 = 0 := by decide +kernel
theorem k_c3 : dchk kd3 = 0 := by decide +kernel
theorem k_c9 : dchk kd9 = 0 := by decide +kernel
theorem k_c8 : dchk kd8 = 0 := by decide +kernel
theorem k_a1 : isAu kA kS (kf 1) = true := by decide +kernel
theorem k_a2 : isAu kA kS (kf 2) = false := by decide +kernel
theorem k_a3 : isAu kA ⟨#[97, 108, 116, 46, 120]⟩ (kf 1) = false := by decide +kernel
theorem k_n19 : ¬ idI (kf 1) = idI (kf 9) := by decide +kernel
theorem k_n18 : ¬ idI (kf 1) = idI (kf 8) := by decide +kernel
theorem k_n98 : ¬ idI (kf 9) = idI (kf 8) := by decide +kernel
def cfd (a b : Df) : Int := cfD ⟨a, none, 0⟩ ⟨b, none, 0⟩
theorem cfd_eq (x y : DX) : cfD x y = cfd x.d y.d := rfl
theorem k_91 : cfd kd9 kd1 < 0 := by decide +kernel
theorem k_81 : cfd kd8 kd1 < 0 := by decide +kernel
theorem k_89 : cfd kd8 kd9 < 0 := by decide +kernel
theorem head_min {cs : List DX} {L : List Df} {m : Df} (hp : (cs.map fun x : DX => x.d).Perm L) (hs : cs.Pairwise (fun x y => ¬ cfD y x < 0)) (hm : m ∈ L) (hL : ∀ d ∈ L, d = m ∨ cfd m d < 0) : ∃ x t, cs = x :: t ∧ x.d = m := by
  cases cs with
  | nil =>
    have := hp.symm.subset hm
    cases this
  | cons x t =>
    refine ⟨x, t, rfl, ?_⟩
    rcases hL x.d (hp.subset (by simp)) with h | h
    · exact h
    · have h1 := hp.symm.subset hm
      rw [List.map_cons] at h1
      rcases List.mem_cons.1 h1 with h1 | h1
      · exact h1.symm
      · obtain ⟨y, hy, e⟩ := List.mem_map.1 h1
        have := (List.pairwise_cons.1 hs).1 y hy
        rw [cfd_eq, e] at this
        exact absurd h this
theorem Reg.lenA {w : World} {b mb : Nat} {l : List (List Int × DX)} (_h : Reg w b mb kA l) : kA.length ≤ 64 := by decide
theorem mods_nil (w : World) : RowA auC 16 w none [] := RowA.nil
theorem ok_1 : kd1.OK := ⟨kf_BY (by decide), kf_BY (by decide), fun m hm => by simp [kd1] at hm; subst hm; exact kf_BY (by decide)⟩
theorem ok_2 : kd2.OK := ⟨kf_BY (by decide), kf_BY (by decide), fun m hm => by cases hm⟩
theorem ok_3 : kd3.OK := ⟨kf_BY (by decide), kf_BY (by decide), fun m hm => by cases hm⟩
theorem ok_9 : kd9.OK := ⟨kf_BY (by decide), kf_BY (by decide), fun m hm => by cases hm⟩
theorem ok_8 : kd8.OK := ⟨kf_BY (by decide), kf_BY (by decide), fun m hm => by cases hm⟩
theorem addE_au {A : List Au} {l : List (List Int × DX)} {d : Df} (h1 : dchk d = 0) (h2 : isAu A d.g d.au = false) : addE A l d = 20 := by
  unfold addE; rw [if_neg (by rw [h1]; decide), if_pos h2]
theorem addE_ok {A : List Au} {l : List (List Int × DX)} {d : Df} (h1 : dchk d = 0) (h2 : isAu A d.g d.au = true) (h3 : aget l (idI d.id) = none) (h4 : l.length < 4096) : addE A l d = 0 := by
  unfold addE; rw [if_neg (by rw [h1]; decide), if_neg (by rw [h2]; decide), if_neg (by rw [h3]; decide), if_neg (by omega)]
/-- An addition that succeeds, and one that does not. -/
theorem radd_yes {w : World} {b mb : Nat} {A : List Au} {l : List (List Int × DX)} (h : Reg w b mb A l) (hAl : A.length ≤ 64) (x : DX) (hR : RowA auC 16 w x.p x.d.ms) (hc : x.d.ms.length ≤ x.c) (ho : x.d.OK) (hG : GW w) (he : addE A l x.d = 0) :
    Calls Tryz.prog 22 #[.pointer (some ⟨b, 0, none⟩), dfV x] w fun e w' => e = .returned (.int .i64 0) ∧ ∃ (p' : Option Addr) (c' : Nat), Reg w' b mb A (aset l (idI x.d.id) ⟨x.d, p', c'⟩) ∧ Kp (· = mb) w w' :=
  (radd_any h hAl x hR hc ho hG).mono fun e w' ⟨h1, h2⟩ => by
    rw [he] at h1
    refine ⟨h1, ?_⟩
    rcases h2 with ⟨h2, _⟩ | ⟨_, p', c', h2, _, h3⟩
    · exact absurd he h2
    · exact ⟨p', c', h2, h3⟩
theorem radd_no {w : World} {b mb : Nat} {A : List Au} {l : List (List Int × DX)} (h : Reg w b mb A l) (hAl : A.length ≤ 64) (x : DX) (hR : RowA auC 16 w x.p x.d.ms) (hc : x.d.ms.length ≤ x.c) (ho : x.d.OK) (hG : GW w) {er : Int} (he : addE A l x.d = er) (hne : er ≠ 0) :
    Calls Tryz.prog 22 #[.pointer (some ⟨b, 0, none⟩), dfV x] w fun e w' => e = .returned (.int .i64 er) ∧ Reg w' b mb A l ∧ K0 w w' :=
  (radd_any h hAl x hR hc ho hG).mono fun e w' ⟨h1, h2⟩ => by
    rw [he] at h1 h2
    refine ⟨h1, ?_⟩
    rcases h2 with ⟨_, h2, h3⟩ | ⟨h2, _⟩
    · exact ⟨h2, h3⟩
    · exact absurd h2 hne
set_option maxRecDepth 100000 in
set_option maxHeartbeats 4000000 in
theorem known_any (w : World) (hG : GW w) : Calls Tryz.prog 15 #[] w fun e w' => e = .returned (.bool true) ∧ K0 w w' := by
  refine vc_lknown w _ (fun n n1 n2 W hW => ?_)
  have kW : K0 w W := hW.kk rfl
  have bn := block_lt (hW.cells 2 rfl)
  have bn1 := block_lt (hW.cells 1 rfl)
  simp only at bn bn1
  have hrA : RowA atC 17 W (some ⟨n2, 0, none⟩) kA := fun k y hy => by
    match k, hy with
    | 0, hy => cases hy; exact ⟨n2, 0, rfl, AtL_block (hW.cells 0 rfl) rfl⟩
    | k + 1, hy => cases hy
  refine ⟨(rnew_any kA (some ⟨n2, 0, none⟩) 1 W hrA (fun x hx => by simp [kA] at hx; subst hx; exact kf_BY (by decide)) (fun x hx => by simp [kA] at hx; subst hx; decide) (hG.kp kW (fun h => h))).mono fun e w1 ⟨hQ, k1⟩ => ?_⟩
  rcases hQ with ⟨h, _⟩ | ⟨_, h, _⟩ | ⟨_, _, b, mb, he, hReg, gb, gm⟩
  · exact absurd h (by decide)
  · rw [k_new] at h; exact absurd rfl h
  refine ⟨_, _, _, he, .of_k0 k1, fun n3 W2 hW2 => ?_⟩
  have kT1 := kW.trans k1
  have k2 : K0 w1 W2 := hW2.kk rfl
  have kT2 := kT1.trans k2
  have gmw : w.heap.size ≤ mb := Nat.le_trans kW.size gm
  have hl := hReg.lenA
  have fresh : ∀ {wa wb : World}, K0 w wa → Kp (· = mb) wa wb → K0 w wb := fun ka hk => ka.fresh hk (fun j hj e => by have e : j = mb := e; omega)
  have kept : ∀ {wa wb : World}, Kp (· = mb) wa wb → KeptL [n1, n] wa wb := fun hk => .of_kp hk (fun z hz e => by
    simp only [List.mem_cons, List.not_mem_nil, or_false] at hz
    have e : z = mb := e
    rcases hz with hz | hz <;> omega)
  have hG' : ∀ {wa : World}, K0 w wa → GW wa := fun k => hG.kp k (fun h => h)
  have hm1 : RowA auC 16 W2 (some ⟨n3, 0, none⟩) [kf 2] := fun k y hy => by
    match k, hy with
    | 0, hy => cases hy; exact ⟨n3, 0, rfl, AtL_block (hW2.cells 0 rfl) rfl⟩
    | k + 1, hy => cases hy
  refine ⟨(radd_yes (hReg.k0 k2) hl ⟨kd1, some ⟨n3, 0, none⟩, 1⟩ hm1 (Nat.le_refl 1) ok_1 (hG' kT2) (addE_ok k_c1 k_a1 rfl (by decide))).mono fun e w3 ⟨he, p1, c1, hR3, k3⟩ => ⟨_, he, kept k3, ?_⟩⟩
  have kT3 := fresh kT2 k3
  have hR3 : Reg w3 b mb kA [(idI (kf 1), ⟨kd1, p1, c1⟩)] := hR3
  refine ⟨(radd_no hR3 hl ⟨kd2, none, 0⟩ (mods_nil _) (Nat.le_refl 0) ok_2 (hG' kT3) (addE_au k_c2 k_a2) (by decide)).mono fun e w4 ⟨he, hR4, k4⟩ => ⟨_, he, .of_k0 k4, ?_⟩⟩
  have kT4 := kT3.trans k4
  refine ⟨(radd_no hR4 hl ⟨kd3, none, 0⟩ (mods_nil _) (Nat.le_refl 0) ok_3 (hG' kT4) (addE_au k_c3 k_a3) (by decide)).mono fun e w5 ⟨he, hR5, k5⟩ => ⟨_, he, .of_k0 k5, ?_⟩⟩
  have kT5 := kT4.trans k5
  refine ⟨(rmod_any hR5 (show (1 : Nat) ≤ 4096 by decide) kS).mono fun e w6 ⟨⟨cs, hV, he⟩, k6⟩ => ?_⟩
  have hh6 : ((headC cs).isSome && ((headC cs).getD dxz).d.md) = true := by
    obtain ⟨x, t, rfl, hx⟩ := head_min (m := kd1) hV.1 hV.2 (by simp [accL, kd1]) (fun d hd => by simp [accL, kd1] at hd; exact .inl hd)
    have hh : headC (x :: t) = some x := if_neg (by rw [hx]; decide)
    rw [hh]
    show (true && x.d.md) = true
    rw [hx]; rfl
  rw [hh6] at he
  refine ⟨_, he, .of_k0 k6, ?_⟩
  have kT6 := kT5.trans k6
  have hg9 : aget [(idI (kf 1), (⟨kd1, p1, c1⟩ : DX))] (idI kd9.id) = none := by
    show (if idI (kf 1) = idI (kf 9) then _ else _) = none
    rw [if_neg k_n19]; rfl
  refine ⟨(radd_yes (hR5.k0 k6) hl ⟨kd9, none, 0⟩ (mods_nil _) (Nat.le_refl 0) ok_9 (hG' kT6) (addE_ok k_c9 k_a1 hg9 (show (1 : Nat) < 4096 by decide))).mono fun e w7 ⟨he, p9, c9, hR7, k7⟩ => ⟨_, he, kept k7, ?_⟩⟩
  have kT7 := fresh kT6 k7
  have es9 : aset [(idI (kf 1), (⟨kd1, p1, c1⟩ : DX))] (idI kd9.id) ⟨kd9, p9, c9⟩ = [(idI (kf 1), ⟨kd1, p1, c1⟩), (idI (kf 9), ⟨kd9, p9, c9⟩)] := by
    show (if idI (kf 1) = idI (kf 9) then _ else _) = _
    rw [if_neg k_n19]; rfl
  have hR7 : Reg w7 b mb kA [(idI (kf 1), ⟨kd1, p1, c1⟩), (idI (kf 9), ⟨kd9, p9, c9⟩)] := by rw [← es9]; exact hR7
  refine ⟨(rcur_any hR7 (show (2 : Nat) ≤ 4096 by decide) kS).mono fun e w8 ⟨⟨cs, hV, _, he⟩, k8⟩ => ?_⟩
  have hh8 : headC cs = none := by
    obtain ⟨x, t, rfl, hx⟩ := head_min (m := kd9) hV.1 hV.2 (by simp [accL, kd1, kd9]) (fun d hd => by
      have hd : d ∈ [kd1, kd9] := by simpa [accL, kd1, kd9] using hd
      simp only [List.mem_cons, List.not_mem_nil, or_false] at hd
      rcases hd with rfl | rfl
      · exact .inr k_91
      · exact .inl rfl)
    exact if_pos (by rw [hx]; rfl)
  rw [hh8] at he
  refine ⟨_, _, _, _, _, _, _, _, _, _, _, he, .of_k0 k8, fun n5 W9 hW9 => ?_⟩
  have kT8 := kT7.trans k8
  have k9 : K0 w8 W9 := hW9.kk rfl
  have kT9 := kT8.trans k9
  have g5 : w8.heap.size ≤ n5 := hW9.fresh 0 rfl rfl
  have hR9 := (hR7.k0 k8).k0 k9
  have hmb8 := (hR7.k0 k8).map.lt
  have kept5 : ∀ {wa wb : World}, Kp (· = mb) wa wb → KeptL [n5, n1, n] wa wb := fun hk => .of_kp hk (fun z hz e => by
    simp only [List.mem_cons, List.not_mem_nil, or_false] at hz
    have e : z = mb := e
    rcases hz with hz | hz | hz <;> omega)
  have hg8 : aget [(idI (kf 1), (⟨kd1, p1, c1⟩ : DX)), (idI (kf 9), ⟨kd9, p9, c9⟩)] (idI kd8.id) = none := by
    show (if idI (kf 1) = idI (kf 8) then _ else _) = none
    rw [if_neg k_n18]
    show (if idI (kf 9) = idI (kf 8) then _ else _) = none
    rw [if_neg k_n98]; rfl
  refine ⟨(radd_yes hR9 hl ⟨kd8, none, 0⟩ (mods_nil _) (Nat.le_refl 0) ok_8 (hG' kT9) (addE_ok k_c8 k_a1 hg8 (show (2 : Nat) < 4096 by decide))).mono fun e w10 ⟨he, p8, c8, hR10, k10⟩ => ⟨_, he, kept5 k10, ?_⟩⟩
  have kT10 := fresh kT9 k10
  have es8 : aset [(idI (kf 1), (⟨kd1, p1, c1⟩ : DX)), (idI (kf 9), ⟨kd9, p9, c9⟩)] (idI kd8.id) ⟨kd8, p8, c8⟩ = [(idI (kf 1), ⟨kd1, p1, c1⟩), (idI (kf 9), ⟨kd9, p9, c9⟩), (idI (kf 8), ⟨kd8, p8, c8⟩)] := by
    show (if idI (kf 1) = idI (kf 8) then _ else _ :: (if idI (kf 9) = idI (kf 8) then _ else _)) = _
    rw [if_neg k_n18, if_neg k_n98]; rfl
  have hR10 : Reg w10 b mb kA [(idI (kf 1), ⟨kd1, p1, c1⟩), (idI (kf 9), ⟨kd9, p9, c9⟩), (idI (kf 8), ⟨kd8, p8, c8⟩)] := by rw [← es8]; exact hR10
  refine ⟨(rcur_any hR10 (show (3 : Nat) ≤ 4096 by decide) kS).mono fun e w11 ⟨⟨cs, hV, _, he⟩, k11⟩ => ?_⟩
  obtain ⟨x, hh11, hx11⟩ : ∃ x : DX, headC cs = some x ∧ x.d = kd8 := by
    obtain ⟨x, t, rfl, hx⟩ := head_min (m := kd8) hV.1 hV.2 (by simp [accL, kd1, kd9, kd8]) (fun d hd => by
      have hd : d ∈ [kd1, kd9, kd8] := by simpa [accL, kd1, kd9, kd8] using hd
      simp only [List.mem_cons, List.not_mem_nil, or_false] at hd
      rcases hd with rfl | rfl | rfl
      · exact .inr k_81
      · exact .inr k_89
      · exact .inl rfl)
    exact ⟨x, if_neg (by rw [hx]; decide), hx⟩
  rw [hh11] at he
  have kT11 := kT10.trans k11
  have hR11 := hR10.k0 k11
  refine ⟨_, _, _, _, _, _, _, _, _, _, _, he, .of_k0 k11, fun n7 => ⟨x.d.tx, gimp_intro fun _ W12 hW12 => cell_at (hW12.cells 0 rfl) rfl, fun W12 hW12 => ?_⟩⟩
  have k12 : K0 w11 W12 := hW12.kk rfl
  have kT12 := kT11.trans k12
  have hR12 := hR11.k0 k12
  have htx : x.d.tx = ⟨#[120]⟩ := by rw [hx11]; rfl
  rw [htx]
  have ht : ((⟨#[120]⟩ : ByteArray).toList == [(⟨#[120]⟩ : ByteArray).get! 0]) = true := by decide +kernel
  refine bsp_intro (fun _ => ?_) (fun h => by rw [ht] at h; simp at h)
  refine ⟨(rever_any hR12 (show (3 : Nat) ≤ 4096 by decide) kS (kf 2) (kf_BY (by decide))).mono fun e w13 ⟨he, k13⟩ => ?_⟩
  have hev : ([(idI (kf 1), (⟨kd1, p1, c1⟩ : DX)), (idI (kf 9), ⟨kd9, p9, c9⟩), (idI (kf 8), ⟨kd8, p8, c8⟩)].any fun q => decide (q.2.d.g = kS) && decide (auI (kf 2) ∈ q.2.d.ms.map auI)) = true := by
    rw [List.any_cons]
    show ((decide (kd1.g = kS) && decide (auI (kf 2) ∈ kd1.ms.map auI)) || _) = true
    rw [show (decide (kd1.g = kS) && decide (auI (kf 2) ∈ kd1.ms.map auI)) = true by decide +kernel, Bool.true_or]
  rw [hev] at he
  refine ⟨_, he, .of_k0 k13, bsp_intro (fun _ => ?_) (fun h => absurd h (by decide))⟩
  refine ⟨(rlen_any (hR12.k0 k13)).mono fun e w14 ⟨he, k14⟩ => ⟨_, he, .of_k0 k14, rfl, (kT12.trans k13).trans k14⟩⟩

end Go.Proofs.YtkkfnlehlkiejaaGreatDoor

/- Matching by rows (plain): the marks of the program's Match are those of a table of prefixes. No condition. -/
namespace Go.Proofs.YtkkfnlehlkiejaaGreatDoor

end Go.Proofs.YtkkfnlehlkiejaaGreatDoor

/- Patterns of the reference (plain): matching by rows agrees with the program's Match, where the elements agree. No condition. -/
namespace Go.Proofs.YtkkfnlehlkiejaaGreatDoor

/-- An element of a pattern of the reference. -/
structure RE where
  star : Bool
  set : Nat → Bool
/-- An element and that of the reference. -/
structure RelE (e : El) (r : RE) : Prop where
  star : e.isStar = r.star
  set : r.star = false → ∀ c : Nat, c < 128 → hasB e.chars c = r.set c
  char : ∀ c : Int, 0 ≤ c → c ≤ 255 → hasB e.chars c = true → charB c = true
/-- Elements that agree, one by one. -/
structure RelEs (els : List El) (rs : List RE) : Prop where
  len : els.length = rs.length
  at_ : ∀ (j : Nat) (e : El) (r : RE), els[j]? = some e → rs[j]? = some r → RelE e r
theorem at8_byte {s : ByteArray} {k : Nat} (h : k < s.size) : s.data.toList[k]? = some (at8 s k).toNat.toUInt8 := by
  rw [at8_lt s k h, Array.getElem?_toList, Array.getElem?_eq_getElem (show k < s.data.size from h)]
  congr 1
  show s[k] = _
  rw [Int.toNat_natCast]
  simp
/-- An entry of a list of the reference. -/
structure REnt where
  t : ByteArray
  rs : List RE
  v : Int
structure RelEnt (e : Ent) (r : REnt) : Prop where
  t : e.t = r.t
  v : e.v = r.v
  els : RelEs e.els r.rs
structure RelEnts (es : List Ent) (rs : List REnt) : Prop where
  len : es.length = rs.length
  at_ : ∀ (j : Nat) (e : Ent) (r : REnt), es[j]? = some e → rs[j]? = some r → RelEnt e r
/-! ### Parts of a text -/
end Go.Proofs.YtkkfnlehlkiejaaGreatDoor

/- The formulas of functions by the symbolic evaluator, and that each gives the call's contract. Written by a program (gen.py). No condition. -/
namespace Go.Proofs.YtkkfnlehlkiejaaGreatDoor
set_option maxRecDepth 100000
set_option linter.unusedVariables false

end Go.Proofs.YtkkfnlehlkiejaaGreatDoor

/- The contract of the reference's class: it agrees with the program's parseClass. The text has at most 2^20 bytes. -/
namespace Go.Proofs.YtkkfnlehlkiejaaGreatDoor
open Go.RowKit

theorem arrBo_length (f : Nat → Bool) : ∀ n i, (arrBo f n i).length = n
  | 0, _ => rfl
  | n + 1, i => by simp [arrBo, arrBo_length f n]
theorem arrBo_get (f : Nat → Bool) : ∀ (n i j : Nat), j < n → (arrBo f n i)[j]? = some (.bool (f (i + j)))
  | 0, _, j, h => by omega
  | n + 1, i, 0, _ => by simp [arrBo]
  | n + 1, i, j + 1, h => by
    simp only [arrBo, List.getElem?_cons_succ]
    rw [arrBo_get f n (i + 1) j (by omega)]
    congr 3; omega
theorem arrBo_none (f : Nat → Bool) (n i j : Nat) (h : n ≤ j) : (arrBo f n i)[j]? = none := List.getElem?_eq_none (by rw [arrBo_length]; exact h)
theorem arrBo_congr {f g : Nat → Bool} {n i : Nat} (h : ∀ j, j < n → f (i + j) = g (i + j)) : arrBo f n i = arrBo g n i := by
  apply List.ext_getElem?
  intro j
  rcases Nat.lt_or_ge j n with hj | hj
  · rw [arrBo_get f n i j hj, arrBo_get g n i j hj, h j hj]
  · rw [arrBo_none f n i j hj, arrBo_none g n i j hj]
theorem arrBo_set (f : Nat → Bool) (n k : Nat) (b : Bool) : (arrBo f n 0).set k (.bool b) = arrBo (fun j => if j = k then b else f j) n 0 := by
  apply List.ext_getElem?
  intro j
  rcases Nat.lt_or_ge j n with hj | hj
  · rw [List.getElem?_set, arrBo_length, arrBo_get _ n 0 j hj, arrBo_get _ n 0 j hj, Nat.zero_add]
    by_cases e : k = j
    · subst e; rw [if_pos rfl, if_pos hj, if_pos rfl]
    · rw [if_neg e, if_neg (fun h => e h.symm)]
  · rw [arrBo_none _ n 0 j hj, List.getElem?_eq_none (by rw [List.length_set, arrBo_length]; exact hj)]
/-- The cells of an element of the reference. -/
def reL (b : Bool) (f : Nat → Bool) : List Value := [Value.bool b] ++ arrBo f 128 0
def SetB (w : World) (n : Nat) (b : Bool) (f : Nat → Bool) : Prop := w.heap[n]? = some (.cells (reL b f).toArray 160 (0, 0))
theorem SetB.kp {M : Nat → Prop} {w w' : World} {n : Nat} {b : Bool} {f : Nat → Bool} (h : SetB w n b f) (hk : Kp M w w') (hm : ¬ M n) : SetB w' n b f := hk.blk h hm
theorem SetB.congr {w : World} {n : Nat} {b : Bool} {f g : Nat → Bool} (h : SetB w n b f) (e : ∀ c, c < 128 → f c = g c) : SetB w n b g := by
  unfold SetB at h ⊢
  rw [h]
  unfold reL
  rw [arrBo_congr (f := f) (g := g) (fun j hj => by rw [Nat.zero_add]; exact e j hj)]
theorem SetB.at_ {w : World} {n : Nat} {b : Bool} {f : Nat → Bool} (h : SetB w n b f) : AtL w n 0 ([Value.bool b] ++ arrBo f 128 0) := by
  refine AtL_block h ?_
  simp [reL]
theorem SetB.cell {w : World} {n : Nat} {b : Bool} {f : Nat → Bool} (h : SetB w n b f) {k : Nat} (hk : k < 128) : w.cell? ⟨n, 0 + 1 + k, none⟩ = some (.bool (f k)) := by
  refine cell_at h ?_
  rw [show 0 + 1 + k = k + 1 by omega]
  simp [reL, arrBo_get f 128 0 k hk]
theorem SetB.put {w w1 : World} {n : Nat} {b : Bool} {f : Nat → Bool} (h : SetB w n b f) {k : Nat} {v : Bool} (hp : PutB w n (0 + 1 + k) [.bool v] w1) : SetB w1 n b (fun j => if j = k then v else f j) := by
  have := hp.block h
  unfold SetB
  rw [this]
  congr 2
  rw [show 0 + 1 + k = k + 1 by omega]
  simp only [putL, reL, List.cons_append, List.nil_append, List.set_cons_succ, arrBo_set]
theorem SetB.full {w w1 : World} {n : Nat} {b b' : Bool} {f f' : Nat → Bool} (h : SetB w n b f) (hp : PutB w n 0 ([Value.bool b'] ++ arrBo f' 128 0) w1) : SetB w1 n b' f' := hp.full h (by simp [reL, arrBo_length])
end Go.Proofs.YtkkfnlehlkiejaaGreatDoor

/- The formulas of functions by the symbolic evaluator, and that each gives the call's contract. Written by a program (gen.py). No condition. -/
namespace Go.Proofs.YtkkfnlehlkiejaaGreatDoor
set_option maxRecDepth 100000
set_option linter.unusedVariables false

end Go.Proofs.YtkkfnlehlkiejaaGreatDoor

/- The contract of the reference's Compile: it agrees with the program's. No condition. -/
namespace Go.Proofs.YtkkfnlehlkiejaaGreatDoor
open Go.RowKit

/-- The cells of elements of the reference. -/
def rows (rs : List RE) : List Value := rs.flatMap fun r => reL r.star r.set
/-- A pattern that is being made. -/
def RSt (w : World) (n : Nat) (s : ByteArray) (rs : List RE) : Prop :=
  ∃ (p : Option Addr) (c : Nat), w.heap[n]? = some (.cells #[.string s, .slice p rs.length c] 129 (0, 0)) ∧ w.ownsRow (n + 1) 160 129 (.slice p rs.length c) rs.length (rows rs)
theorem RSt.kp {w w' : World} {n : Nat} {s : ByteArray} {rs : List RE} (h : RSt w n s rs) (hk : K0 w w') : RSt w' n s rs := by
  obtain ⟨p, c, h1, h2⟩ := h
  exact ⟨p, c, hk.blk h1 (fun h => h), owns_kp h2 hk (fun _ _ h => h)⟩
def PB (w : World) (n : Nat) : Prop := ∃ v u, w.heap[n]? = some (.cells #[v, u] 129 (0, 0))
theorem PB.kp {M : Nat → Prop} {w w' : World} {n : Nat} (h : PB w n) (hk : Kp M w w') (hm : ¬ M n) : PB w' n := by
  obtain ⟨v, u, h⟩ := h; exact ⟨v, u, hk.blk h hm⟩
theorem PB.put {w w1 : World} {n : Nat} (h : PB w n) {v u : Value} (hp : PutB w n 0 [v, u] w1) : w1.heap[n]? = some (.cells #[v, u] 129 (0, 0)) := by
  obtain ⟨v', u', h⟩ := h; exact hp.full h rfl
theorem SetB.star {w w1 : World} {n : Nat} {b : Bool} {f : Nat → Bool} (h : SetB w n b f) {v : Bool} (hp : PutB w n 0 [.bool v] w1) : SetB w1 n v f := by
  have := hp.block h
  unfold SetB
  rw [this]
  congr 2
end Go.Proofs.YtkkfnlehlkiejaaGreatDoor

/- The formulas of functions by the symbolic evaluator, and that each gives the call's contract. Written by a program (gen.py). No condition. -/
namespace Go.Proofs.YtkkfnlehlkiejaaGreatDoor
set_option maxRecDepth 100000
set_option linter.unusedVariables false

end Go.Proofs.YtkkfnlehlkiejaaGreatDoor

/- The contract of the reference's ParseList: it agrees with the program's. The text has at most 2^30 bytes. -/
namespace Go.Proofs.YtkkfnlehlkiejaaGreatDoor
open Go.RowKit

/-- An entry of the reference's list, and where its elements lie. -/
abbrev RItA := REnt × Option Addr × Nat
def ritC (x : RItA) : List Value := [.int .i64 x.1.v, .string x.1.t, .slice x.2.1 x.1.rs.length x.2.2]
/-- The reference's list in the memory. -/
structure RLst (base : Nat) (w : World) (p : Option Addr) (n c : Nat) (L : List RItA) : Prop where
  len : n = L.length
  row : w.ownsRow base 131 3 (.slice p n c) n (L.flatMap ritC)
  els : ∀ x ∈ L, w.ownsRow base 160 129 (.slice x.2.1 x.1.rs.length x.2.2) x.1.rs.length (rows x.1.rs)
theorem RLst.kp {base : Nat} {w w' : World} {p : Option Addr} {n c : Nat} {L : List RItA} (h : RLst base w p n c L) (hk : K0 w w') : RLst base w' p n c L :=
  ⟨h.len, owns_kp h.row hk (fun _ _ h => h), fun x hx => owns_kp (h.els x hx) hk (fun _ _ h => h)⟩
theorem hp1 (x : ByteArray) (c : UInt8) : Lib.hasPrefix x.data.toList [c] = (decide (0 < x.size) && at8 x 0 == (c.toNat : Int)) := by
  have hl : x.data.toList.length = x.size := x.data.length_toList
  cases hd : x.data.toList with
  | nil =>
    rw [hd] at hl
    have : ¬ 0 < x.size := by simp at hl; omega
    simp [this, Lib.hasPrefix]
  | cons a r =>
    have h0 : 0 < x.size := by rw [hd] at hl; simp at hl; omega
    have g := at8_byte h0
    rw [hd] at g
    simp at g
    have hb := at8_bd x 0
    have ea : at8 x 0 = (a.toNat : Int) := by
      rw [g, UInt8.toNat_ofNat']
      omega
    rw [ea]
    simp only [Lib.hasPrefix, List.isPrefixOf, h0, decide_true, Bool.true_and, Bool.and_true]
    rw [Bool.eq_iff_iff]
    simp only [beq_iff_eq]
    constructor
    · rintro rfl; rfl
    · intro h
      apply UInt8.toNat_inj.1
      omega
end Go.Proofs.YtkkfnlehlkiejaaGreatDoor

/- The formulas of functions by the symbolic evaluator, and that each gives the call's contract. Written by a program (gen.py). No condition. -/
namespace Go.Proofs.YtkkfnlehlkiejaaGreatDoor
set_option maxRecDepth 100000
set_option linter.unusedVariables false

end Go.Proofs.YtkkfnlehlkiejaaGreatDoor

/- The contracts of the reference's Match, Verdict and Selects. Names have at most 2^47 bytes. -/
namespace Go.Proofs.YtkkfnlehlkiejaaGreatDoor
open Go.RowKit

theorem ritC_length (x : RItA) : (ritC x).length = 3 := rfl
theorem RLst.cell {base : Nat} {w : World} {p : Option Addr} {n c : Nat} {L : List RItA} (h : RLst base w p n c L) {k : Nat} {x : RItA} (hk : L[k]? = some x) {j : Nat} {v : Value} (hj : (ritC x)[j]? = some v) : ∃ g, p = some ⟨g, 0, none⟩ ∧ w.cell? ⟨g, k * 3 + j, none⟩ = some v := by
  refine own_cellL h.row ?_
  have : j < 3 := by rw [← ritC_length x]; exact (List.getElem?_eq_some_iff.1 hj).1
  rw [flat_get ritC 3 L k x j (fun y _ => ritC_length y) hk this]
  exact hj
end Go.Proofs.YtkkfnlehlkiejaaGreatDoor

/- The formulas of functions by the symbolic evaluator, and that each gives the call's contract. Written by a program (gen.py). No condition. -/
namespace Go.Proofs.YtkkfnlehlkiejaaGreatDoor
set_option maxRecDepth 100000
set_option linter.unusedVariables false

end Go.Proofs.YtkkfnlehlkiejaaGreatDoor

/- Chapter 21: the contracts of the reference: Check, Same, New, Authority, find. Lists of at most 2^30 bytes. -/
namespace Go.Proofs.YtkkfnlehlkiejaaGreatDoor
open Go.RowKit Go.Maps

/-! ### Authorities -/
end Go.Proofs.YtkkfnlehlkiejaaGreatDoor

/- Chapter 21: the contracts of the law's authorities, To, Of. No condition but sizes. -/
namespace Go.Proofs.YtkkfnlehlkiejaaGreatDoor
open Go.RowKit Go.Maps

def cutA (x : Au) : Au := ⟨x.pt.extract 0 (if (200 : Int) < (x.pt.size : Int) then (200 : Int) else (x.pt.size : Int)).toNat, x.au⟩
def autL (l : List Au) : List Au := (l.take 70).map cutA
theorem cutA_sz (x : Au) : (cutA x).pt.size ≤ 200 := by
  show (x.pt.extract 0 _).size ≤ 200
  rw [ByteArray.size_extract]
  split <;> omega
set_option maxHeartbeats 2000000 in
theorem lauths_any (l : List Au) (p : Option Addr) (c : Nat) (w : World) (hR : RowA atC 17 w p l) :
    Calls Tryz.prog 12 #[.slice p l.length c] w fun e w' => (∃ (p1 : Option Addr) (c1 : Nat) (p2 : Option Addr) (c2 : Nat), e = .returned (.tuple #[.slice p1 (autL l).length c1, .slice p2 (autL l).length c2]) ∧ RowA atC 17 w' p1 (autL l) ∧ RowA atC 17 w' p2 (autL l)) ∧ K0 w w' := by
  refine vc_lauths p l.length c w _ ?_
  refine ⟨fun vs w' => ∃ (k : Nat) (p1 : Option Addr) (c1 : Nat) (p2 : Option Addr) (c2 : Nat), vs = [.int .i64 (k : Int), .slice p2 k c2, .slice p1 k c1] ∧ k ≤ l.length ∧ k ≤ 70 ∧
      w'.ownsRow w.heap.size 94 17 (.slice p1 k c1) k (((l.take k).map cutA).flatMap atC) ∧ w'.ownsRow w.heap.size 92 17 (.slice p2 k c2) k (((l.take k).map cutA).flatMap atC) ∧ K0 w w',
    fun vs _ => (match vs with | .int _ x :: _ => l.length - x.toNat | _ => 0), ⟨0, none, 0, none, 0, rfl, by omega, by omega, World.ownsRow_nil _ _ _ _, World.ownsRow_nil _ _ _ _, .refl _ _⟩, ?_⟩
  rintro x p2' n2' c2' p1' n1' c1' w1 ⟨k, p1, c1, p2, c2, hv, hk, hk7, ho1, ho2, k1⟩
  simp only [List.cons.injEq, Value.int.injEq, Value.slice.injEq, true_and, and_true] at hv
  obtain ⟨rfl, ⟨rfl, rfl, rfl⟩, rfl, rfl, rfl⟩ := hv
  refine bsp_intro (fun hlt => fun W hW => ?_) (fun hge => ?_)
  · have hlt : n1' < l.length ∧ n1' < 70 := by simp at hlt; omega
    have kW : K0 w1 W := hW.kk rfl
    obtain ⟨x, b, o, hx, hp, hat⟩ := (hR.k0 (k1.trans kW)).get hlt.1
    rw [Int.toNat_natCast]
    have hc0 := hat.cell (j := 0) (v := .string x.pt) rfl
    rw [Nat.add_zero] at hc0
    have hau : ∀ wx, K0 W wx → AtL wx b (o + n1' * 17 + 1) (arrI .u8 x.au 16 0) := fun wx k => ⟨At_of _ _ fun j v hv => by
      have := (hat.k0 k).cell (j := j + 1) (v := v) (by simpa [atC] using hv)
      rw [show o + n1' * 17 + (j + 1) = o + n1' * 17 + 1 + j by omega] at this
      exact this⟩
    refine ⟨fun wx => K0 W wx, .refl _ _, nn_is hp ⟨⟨by omega, by omega⟩, x.pt, fun wx k => k.cell' hc0 (fun h => h), nn_is hp ⟨⟨by omega, by omega⟩, x.pt, fun wx k => k.cell' hc0 (fun h => h), ⟨by split <;> omega, by split <;> omega⟩, nn_is hp ⟨⟨by omega, by omega⟩, x.au, hau, fun n w2 hn => ⟨hn.kp _, WrL_block hn.block (by show 0 + 17 ≤ 17; omega), fun w3 p3 => ?_⟩⟩⟩⟩⟩
    have k3 : K0 W w3 := put_k0 (hn.kp _) p3 hn.ge
    have hb3 : w3.heap[n]? = some (.cells (atC (cutA x)).toArray 92 (0, 0)) := p3.full hn.block rfl
    have hnl3 := block_lt hb3
    refine ⟨.of_k0 k3, (cutA x).pt, cell_at hb3 rfl, x.au, AtL_block hb3 rfl, fun n4 W4 hW4 => ?_⟩
    have k4 : K0 w3 W4 := hW4.kk rfl
    have k04 := (kW.trans k3).trans k4
    have ho14 := owns_kp ho1 k04 (fun _ _ h => h)
    have ho24 := owns_kp ho2 k04 (fun _ _ h => h)
    have hb4 := k4.blk hb3 (fun h => h)
    have et : (l.take (n1' + 1)).map cutA = (l.take n1').map cutA ++ [cutA x] := by rw [take_snoc hx, List.map_append]; rfl
    have kw4 := k1.trans k04
    refine ⟨w.heap.size, _, ho14, by omega, by omega, kw4.size, fun q1 d1 w5 ho5 hg5 _ => ?_⟩
    have kg5 := kp_grown hg5
    have hb5 := kg5.blk hb4 (fun e => by
      obtain ⟨ct, hct⟩ := own_type ho14 e
      rw [hb4] at hct
      simp only [Option.some.injEq, Obj.cells.injEq] at hct
      exact absurd hct.2.1 (by decide))
    have k5 : K0 w w5 := kw4.fresh kg5 (fun j hj e => by have := own_ge ho14 e; omega)
    have ho25 := owns_kp ho24 kg5 (fun j h1 h2 => own_types ho24 ho14 (by decide) h1 h2)
    refine ⟨⟨kg5.size, fun _ hx => by cases hx⟩, (cutA x).pt, x.au, AtL_block hb5 rfl, fun n6 W6 hW6 => ?_⟩
    have k6 : K0 w5 W6 := hW6.kk rfl
    have ho26 := owns_kp ho25 k6 (fun _ _ h => h)
    have ho16 := owns_kp ho5 k6 (fun _ _ h => h)
    refine ⟨w.heap.size, _, ho26, by omega, by omega, (k5.trans k6).size, fun q2 d2 w7 ho7 hg7 _ => ?_⟩
    have kg7 := kp_grown hg7
    have ho17 := owns_kp ho16 kg7 (fun j h1 h2 => own_types ho16 ho26 (by decide) h1 h2)
    refine ⟨⟨kg7.size, fun _ hx => by cases hx⟩, ⟨n1' + 1, q1, d1, q2, d2, by rw [inc64 (by omega)], hlt.1, hlt.2, ?_, ?_, (k5.trans k6).fresh kg7 (fun j hj e => by have := own_ge ho26 e; omega)⟩, by rw [inc64 (by omega)]; simp only [Int.toNat_natCast]; omega⟩
    · rw [et, List.flatMap_append, List.flatMap_singleton]; exact ho17
    · rw [et, List.flatMap_append, List.flatMap_singleton]; exact ho7
  · have hk2 : l.take n1' = l.take 70 := by
      have : n1' = l.length ∨ n1' = 70 := by
        simp only [Bool.and_eq_false_iff, decide_eq_false_iff_not] at hge
        omega
      rcases this with h | h
      · rw [h, List.take_length, List.take_of_length_le (by omega)]
      · rw [h]
    have el : (autL l).length = n1' := by
      unfold autL
      rw [← hk2, List.length_map, List.length_take]; omega
    rw [hk2] at ho1 ho2
    rw [el]
    exact ⟨⟨p1', c1', p2', c2', rfl, RowA.own ho1 atC_length (by decide), RowA.own ho2 atC_length (by decide)⟩, k1⟩

/-! ### Definitions turned -/
def toD (d : Df) : Df := ⟨d.id, d.au, d.g.extract 0 (if (100 : Int) < (d.g.size : Int) then (100 : Int) else (d.g.size : Int)).toNat, d.v, d.rm, d.md, d.ms.take 10, d.tx.extract 0 (if (220 : Int) < (d.tx.size : Int) then (220 : Int) else (d.tx.size : Int)).toNat⟩
theorem toD_OK {d : Df} (h : d.OK) : (toD d).OK := ⟨h.id, h.au, fun m hm => h.ms m (List.mem_of_mem_take hm)⟩
def withMs (d : Df) (ms : List (Nat → Int)) : Df := ⟨d.id, d.au, d.g, d.v, d.rm, d.md, ms, d.tx⟩
set_option maxRecDepth 100000 in
set_option maxHeartbeats 4000000 in
theorem lto_any (x : DX) (w : World) (hR : RowA auC 16 w x.p x.d.ms) :
    Calls Tryz.prog 23 #[dfV x] w fun e w' => (∃ (q : Option Addr) (c : Nat), e = .returned (dfV ⟨toD x.d, q, c⟩) ∧ MO w' w.heap.size ⟨toD x.d, q, c⟩) ∧ K0 w w' := by
  obtain ⟨d, p, c⟩ := x
  refine vc_lto d.id d.au d.g d.v d.rm d.md p d.ms.length c d.tx w _ (fun n1 n2 W hW => ?_)
  have kW : K0 w W := hW.kk rfl
  have b1 := hW.cells 1 rfl
  have b2 := hW.cells 0 rfl
  have l1 := block_lt b1
  have l2 := block_lt b2
  simp only at l1 l2
  have b1x : ∀ wx, K0 W wx → wx.heap[n1]? = _ := fun wx k => k.blk b1 (fun h => h)
  simp only at hR
  refine ⟨fun wx => K0 W wx, .refl _ _, d.id, fun wx k => AtL_block (b1x wx k) rfl, d.au, fun wx k => AtL_block (b1x wx k) rfl, d.g, fun wx k => cell_at (b1x wx k) rfl, d.g, fun wx k => cell_at (b1x wx k) rfl, ⟨by split <;> omega, by split <;> omega⟩, d.v, fun wx k => cell_at (b1x wx k) rfl, d.rm, fun wx k => cell_at (b1x wx k) rfl, d.md, fun wx k => cell_at (b1x wx k) rfl, d.tx, fun wx k => cell_at (b1x wx k) rfl, d.tx, fun wx k => cell_at (b1x wx k) rfl, ⟨by split <;> omega, by split <;> omega⟩, fun n3 w2 hn3 => ⟨hn3.kp _, WrL_block hn3.block (by show 0 + 54 ≤ 54; omega), fun w3 p3 => ?_⟩⟩
  have k3 : K0 W w3 := put_k0 (hn3.kp _) p3 hn3.ge
  have g3 : W.heap.size ≤ n3 := hn3.ge
  have hb3 : w3.heap[n3]? = some (.cells (dfC ⟨withMs (toD d) [], none, 0⟩).toArray 56 (0, 0)) := p3.full hn3.block rfl
  refine ⟨.of_k0 k3, fun vs w' => ∃ (k : Nat) (q : Option Addr) (cq : Nat), vs = [.int .i64 (k : Int)] ∧ k ≤ d.ms.length ∧ k ≤ 10 ∧ w'.heap[n3]? = some (.cells (dfC ⟨withMs (toD d) (d.ms.take k), q, cq⟩).toArray 56 (0, 0)) ∧
      w'.ownsRow W.heap.size 53 16 (.slice q k cq) k ((d.ms.take k).flatMap auC) ∧ K0 W w',
    fun vs _ => (match vs with | .int _ x :: _ => d.ms.length - x.toNat | _ => 0), ⟨0, none, 0, rfl, by omega, by omega, hb3, World.ownsRow_nil _ _ _ _, k3⟩, ?_⟩
  rintro x w4 ⟨k, q, cq, hv, hk, hk10, hb4, ho4, k4⟩ _
  simp only [List.cons.injEq, Value.int.injEq, true_and, and_true] at hv
  subst hv
  have hlk : (d.ms.take k).length = k := by rw [List.length_take]; omega
  refine bsp_intro (fun hlt => fun W5 hW5 => ?_) (fun hge => ?_)
  · have hlt : k < d.ms.length ∧ k < 10 := by simp at hlt; omega
    have k5 : K0 w4 W5 := hW5.kk rfl
    have k05 := k4.trans k5
    have hb5 := k5.blk hb4 (fun h => h)
    obtain ⟨z, b, o, hz, hp, hat⟩ := (hR.k0 (kW.trans k05)).get hlt.1
    rw [Int.toNat_natCast]
    have hs52 : ∀ wx, K0 W5 wx → wx.cell? ⟨n3, 0 + 52, none⟩ = some (.slice q k cq) := fun wx k' => by
      have := cell_at (o := 0 + 52) (v := .slice q (d.ms.take k).length cq) (k'.blk hb5 (fun h => h)) rfl
      rw [hlk] at this
      exact this
    refine ⟨fun wx => K0 W5 wx, .refl _ _, q, k, cq, hs52, p, d.ms.length, c, fun wx k' => cell_at (b1x wx (k05.trans k')) rfl, nn_is hp ⟨⟨by omega, by omega⟩, z, fun wx k' => hat.k0 k', fun n6 w6 hn6 => ⟨hn6.kp _, ?_⟩⟩⟩
    have k6 : K0 W5 w6 := hn6.kp _
    have ho6 := owns_kp ho4 (k5.trans k6) (fun _ _ h => h)
    have hb6 := k6.blk hb5 (fun h => h)
    refine ⟨W.heap.size, (d.ms.take k).flatMap auC, auC z, ho6, auC_length z, src_block hn6.block (fun u hu => arr_one z 16 u hu), by omega, by omega, (k05.trans k6).size, fun q7 c7 w7 ho7 hg7 _ => ?_⟩
    have kg := kp_grown hg7
    have hb7 := kg.blk hb6 (fun e => by
      obtain ⟨ct, hct⟩ := own_type ho6 e
      rw [hb6] at hct
      simp only [Option.some.injEq, Obj.cells.injEq] at hct
      exact absurd hct.2.1 (by decide))
    refine ⟨cell_wr hb7 (by show 0 + 52 < 54; omega), fun w8 p8 => ?_⟩
    have et : d.ms.take (k + 1) = d.ms.take k ++ [z] := take_snoc hz
    have hb8 : w8.heap[n3]? = some (.cells (dfC ⟨withMs (toD d) (d.ms.take (k + 1)), q7, c7⟩).toArray 56 (0, 0)) := by
      rw [p8.block hb7]
      have el : (d.ms.take (k + 1)).length = k + 1 := by rw [List.length_take]; omega
      show some (Obj.cells (putL (dfC ⟨withMs (toD d) (d.ms.take k), q, cq⟩) 52 [.slice q7 (k + 1) c7]).toArray _ _) = some (Obj.cells (arrI .u8 d.id 32 0 ++ (arrI .u8 d.au 16 0 ++ ([.string (toD d).g, .int .i64 d.v, .bool d.rm, .bool d.md, .slice q7 (d.ms.take (k + 1)).length c7, .string (toD d).tx] : List Value))).toArray _ _)
      rw [el]; rfl
    have k8 : K0 W w8 := (k05.trans k6).fresh ((kg.mono fun _ _ h => Or.inl h).trans (p8.kp.mono fun _ _ h => Or.inr h) : Kp (fun j => (Value.slice q k cq).ownBlock = some j ∨ j = n3) w6 w8) (fun j hj e => by
      rcases e with e | e
      · have := own_ge ho6 e; omega
      · omega)
    refine ⟨.of_kp ((k6.mono fun _ _ h => h.elim).trans ((kg.mono fun _ _ h => Or.inl h).trans (p8.kp.mono fun _ _ h => Or.inr h) : Kp (fun j => (Value.slice q k cq).ownBlock = some j ∨ j = n3) w6 w8)) (fun y hy e => ?_), ⟨k + 1, q7, c7, by rw [inc64 (by omega)], hlt.1, hlt.2, hb8, ?_, k8⟩, by rw [inc64 (by omega)]; simp only [Int.toNat_natCast]; omega⟩
    · simp only [List.mem_cons, List.not_mem_nil, or_false] at hy
      rcases e with e | e
      · have := own_ge ho6 e; rcases hy with hy | hy <;> omega
      · rcases hy with hy | hy <;> omega
    · rw [et, List.flatMap_append, List.flatMap_singleton]
      refine owns_kp ho7 p8.kp (fun j hj e => ?_)
      have e : j = n3 := e
      subst e
      obtain ⟨ct, hct⟩ := own_type ho7 hj
      rw [hb7] at hct
      simp only [Option.some.injEq, Obj.cells.injEq] at hct
      exact absurd hct.2.1 (by decide)
  · have hk2 : d.ms.take k = d.ms.take 10 := by
      have : k = d.ms.length ∨ k = 10 := by
        simp only [Bool.and_eq_false_iff, decide_eq_false_iff_not] at hge
        omega
      rcases this with h | h
      · rw [h, List.take_length, List.take_of_length_le (by omega)]
      · rw [h]
    have hlk2 : (d.ms.take 10).length = k := by rw [← hk2]; exact hlk
    rw [hk2] at hb4 ho4
    refine ⟨_, _, _, _, _, _, _, _, _, _, AtL_block hb4 rfl, fun W5 hW5 => ⟨⟨q, cq, rfl, ?_⟩, hW5.k0 (kW.trans k4)⟩⟩
    have : MO w4 W.heap.size ⟨toD d, q, cq⟩ := by
      show w4.ownsRow _ _ _ (.slice q (d.ms.take 10).length cq) (d.ms.take 10).length _
      rw [hlk2]; exact ho4
    refine own_base (this.kp hW5.kp (fun j hj ⟨y, hy, hm, e⟩ => ?_)) kW.size
    have := own_ge this hj
    simp only [List.mem_cons, List.not_mem_nil, or_false] at hy
    rcases hy with rfl | rfl
    · have e : n2 = j := e
      omega
    · cases hm
/-- The moderators of a definition of the reference, in memory of their own. -/
def MOr (w : World) (B : Nat) (x : DX) : Prop := w.ownsRow B 23 16 (.slice x.p x.d.ms.length x.c) x.d.ms.length (x.d.ms.flatMap auC)
theorem MOr.row {w : World} {B : Nat} {x : DX} (h : MOr w B x) : RowA auC 16 w x.p x.d.ms := RowA.own h auC_length (by decide)
end Go.Proofs.YtkkfnlehlkiejaaGreatDoor

/- The formulas of functions by the symbolic evaluator, and that each gives the call's contract. Written by a program (gen.py). No condition. -/
namespace Go.Proofs.YtkkfnlehlkiejaaGreatDoor
set_option maxRecDepth 100000
set_option linter.unusedVariables false

end Go.Proofs.YtkkfnlehlkiejaaGreatDoor

/- Chapter 21: RegistryAuthorities always returns true. The library's variable MaxLen holds a number. -/
namespace Go.Proofs.YtkkfnlehlkiejaaGreatDoor
open Go.RowKit Go.Maps

theorem autL_BY {l : List Au} (h : ∀ x ∈ l, BY x.au) : ∀ x ∈ autL l, BY x.au := fun x hx => by
  obtain ⟨y, hy, rfl⟩ := List.mem_map.1 hx
  exact h y (List.mem_of_mem_take hy)
theorem autL_sz {l : List Au} : ∀ x ∈ autL l, x.pt.size ≤ 1073741824 := fun x hx => by
  obtain ⟨y, _, rfl⟩ := List.mem_map.1 hx
  have := cutA_sz y
  omega
end Go.Proofs.YtkkfnlehlkiejaaGreatDoor

/- Rows and blocks of different types are apart. Generic: no program, no condition. -/
namespace Go.Proofs.YtkkfnlehlkiejaaGreatDoor
open Go.RowKit

theorem own_not {w : World} {base : Nat} {e t : TypeId} {size : Nat} {v : Value} {n : Nat} {xs : List Value} (h : w.ownsRow base e size v n xs) {k : Nat} {c : Array Value} {f : Nat × Nat} (hk : w.heap[k]? = some (.cells c t f)) (hne : (t == e) = false) : ¬ v.ownBlock = some k := fun he => by
  obtain ⟨c', h1⟩ := own_type h he
  rw [hk] at h1
  simp at h1
  rw [h1.2.1] at hne
  simp at hne
end Go.Proofs.YtkkfnlehlkiejaaGreatDoor

/- The formulas of functions by the symbolic evaluator, and that each gives the call's contract. Written by a program (gen.py). No condition. -/
namespace Go.Proofs.YtkkfnlehlkiejaaGreatDoor
set_option maxRecDepth 100000
set_option linter.unusedVariables false

end Go.Proofs.YtkkfnlehlkiejaaGreatDoor

/- Chapter 21: the contracts of the reference's find, Add, Drop. Lists that are not too long. -/
namespace Go.Proofs.YtkkfnlehlkiejaaGreatDoor
open Go.RowKit Go.Maps

theorem SrcP.take {w : World} {p : Option Addr} {xs : List Value} (h : SrcP w p xs) (m : Nat) : SrcP w p (xs.take m) := by
  refine ⟨fun j u hj => ?_, fun u hu => h.one u (List.mem_of_mem_take hu)⟩
  rw [List.getElem?_take] at hj
  split at hj
  · exact h.cells j u hj
  · cases hj
theorem SrcP.drop {w : World} {p : Option Addr} {xs : List Value} (h : SrcP w p xs) {c i sz : Nat} (hi : xs.length ≤ c * sz) : SrcP w (slA p c i sz) (xs.drop (i * sz)) := by
  refine ⟨fun j u hj => ?_, fun u hu => h.one u (List.mem_of_mem_drop hu)⟩
  rw [List.getElem?_drop] at hj
  have hlt := (List.getElem?_eq_some_iff.1 hj).1
  have hne : ¬ c = i := fun e => by subst e; omega
  obtain ⟨b, o, hp, hc⟩ := h.cells _ u hj
  refine ⟨b, o + i * sz, ?_, by rw [Nat.add_assoc]; exact hc⟩
  unfold slA
  rw [if_neg hne, hp]
  simp [add_plain]
/-- The reference's definitions in the memory. -/
structure SR (w : World) (ds : List DX) (p : Option Addr) (c : Nat) : Prop where
  row : RowA dfC 54 w p ds
  ms : ∀ x ∈ ds, RowA auC 16 w x.p x.d.ms
  ok : ∀ x ∈ ds, dchk x.d = 0 ∧ x.d.ms.length ≤ x.c ∧ x.d.OK
  le : ds.length ≤ c
section
variable {w w' : World} {p : Option Addr} {c : Nat} {ds : List DX}
theorem SR.k0 (h : SR w ds p c) (hk : K0 w w') : SR w' ds p c := ⟨h.row.k0 hk, fun x hx => (h.ms x hx).k0 hk, h.ok, h.le⟩
theorem SR.kpM {mb c0 : Nat} {es : Array MapEntry} (h : SR w ds p c) (hk : Kp (· = mb) w w') (hm : w.heap[mb]? = some (.map es c0)) : SR w' ds p c := ⟨h.row.kpM hk hm, fun x hx => (h.ms x hx).kpM hk hm, h.ok, h.le⟩
theorem SR.src (h : SR w ds p c) : SrcP w p (ds.flatMap dfC) := src_rowA h.row dfC_length dfC_one (by decide)
theorem SR.own {base : Nat} (ho : w.ownsRow base 50 54 (.slice p ds.length c) ds.length (ds.flatMap dfC)) (hs : ∀ x ∈ ds, RowA auC 16 w x.p x.d.ms) (hk : ∀ x ∈ ds, dchk x.d = 0 ∧ x.d.ms.length ≤ x.c ∧ x.d.OK) : SR w ds p c :=
  ⟨RowA.own ho dfC_length (by decide), hs, hk, own_le ho⟩
theorem SR.nil (w : World) : SR w [] none 0 := ⟨.nil, (fun x hx => by cases hx), (fun x hx => by cases hx), Nat.le_refl _⟩
end
/-- What the reference's Add answers. -/
def xaddE (A : List Au) (ds : List DX) (d : Df) : Int := if dchk d ≠ 0 then dchk d else if isAu A d.g d.au = false then 20 else if ds.any (fun y => decide (idI y.d.id = idI d.id)) = true then 7 else if 4096 ≤ ds.length then 9 else 0
end Go.Proofs.YtkkfnlehlkiejaaGreatDoor

/- The formulas of functions by the symbolic evaluator, and that each gives the call's contract. Written by a program (gen.py). No condition. -/
namespace Go.Proofs.YtkkfnlehlkiejaaGreatDoor
set_option maxRecDepth 100000
set_option linter.unusedVariables false

end Go.Proofs.YtkkfnlehlkiejaaGreatDoor

/- Chapter 21: worlds of authorities and operations: Play. No condition but what a reading gives. -/
namespace Go.Proofs.YtkkfnlehlkiejaaGreatDoor
open Go.RowKit Go.Maps

/-! ### The reference's list against the map -/
structure DL (l : List (List Int × DX)) (ds : List DX) : Prop where
  eq : ds.map (fun x => x.d) = l.map (fun p => p.2.d)
  key : ∀ p ∈ l, p.1 = idI p.2.d.id
  dis : l.Pairwise fun p q => p.1 ≠ q.1
section
variable {l : List (List Int × DX)} {ds : List DX}
theorem DL.nil : DL [] [] := ⟨rfl, (fun p h => by cases h), .nil⟩
theorem DL.len (h : DL l ds) : ds.length = l.length := by
  have := congrArg List.length h.eq
  simpa using this
theorem DL.at (h : DL l ds) {i : Nat} {y : DX} (hi : ds[i]? = some y) : ∃ x, l[i]? = some (idI y.d.id, x) ∧ x.d = y.d := by
  have h1 := congrArg (fun z => z[i]?) h.eq
  simp only [List.getElem?_map, hi, Option.map_some] at h1
  cases hl : l[i]? with
  | none => rw [hl] at h1; cases h1
  | some p =>
    rw [hl] at h1
    simp only [Option.map_some, Option.some.injEq] at h1
    have hk := h.key p (List.mem_of_getElem? hl)
    obtain ⟨k, x⟩ := p
    simp only at h1 hk
    rw [← h1] at hk
    exact ⟨x, by rw [hk], h1.symm⟩
theorem DL.mem (h : DL l ds) {p : List Int × DX} (hp : p ∈ l) : ∃ y ∈ ds, y.d = p.2.d := by
  have : p.2.d ∈ ds.map (fun x => x.d) := by rw [h.eq]; exact List.mem_map.2 ⟨p, hp, rfl⟩
  obtain ⟨y, hy, e⟩ := List.mem_map.1 this
  exact ⟨y, hy, e⟩
theorem DL.no (h : DL l ds) {a : List Int} (ha : ∀ y ∈ ds, idI y.d.id ≠ a) : aget l a = none := by
  rw [aget_none]
  intro p hp e
  obtain ⟨y, hy, hd⟩ := h.mem hp
  exact ha y hy (by rw [hd, ← h.key p hp]; exact e)
theorem DL.get (h : DL l ds) {i : Nat} {y : DX} (hi : ds[i]? = some y) : ∃ x, aget l (idI y.d.id) = some x ∧ x.d = y.d := by
  obtain ⟨x, h1, h2⟩ := h.at hi
  exact ⟨x, aget_at h.dis (List.mem_of_getElem? h1), h2⟩
theorem DL.any (h : DL l ds) (a : List Int) : ds.any (fun y => decide (idI y.d.id = a)) = (aget l a).isSome := by
  rw [Bool.eq_iff_iff, List.any_eq_true]
  constructor
  · rintro ⟨y, hy, e⟩
    obtain ⟨i, hi⟩ := List.getElem?_of_mem hy
    obtain ⟨x, hx, _⟩ := h.get hi
    have e : idI y.d.id = a := by simpa using e
    rw [← e, hx]; rfl
  · intro hs
    refine Classical.byContradiction fun hn => ?_
    have := h.no (a := a) (fun y hy e => hn ⟨y, hy, by simpa using e⟩)
    rw [this] at hs; cases hs
theorem DL.addE (h : DL l ds) (A : List Au) (d : Df) : xaddE A ds d = addE A l d := by
  unfold xaddE Go.Proofs.YtkkfnlehlkiejaaGreatDoor.addE
  rw [h.any, h.len]
theorem DL.add (h : DL l ds) {x y : DX} (hn : aget l (idI x.d.id) = none) (hd : y.d = x.d) : DL (aset l (idI x.d.id) x) (ds ++ [y]) := by
  rw [aget_none] at hn
  rw [aset_new hn]
  refine ⟨by rw [List.map_append, List.map_append, h.eq]; simp [hd], fun p hp => ?_, ?_⟩
  · rcases List.mem_append.1 hp with hp | hp
    · exact h.key p hp
    · simp at hp; subst hp; rfl
  · rw [List.pairwise_append]
    refine ⟨h.dis, List.pairwise_singleton _ _, fun a ha b hb => ?_⟩
    simp at hb
    subst hb
    exact hn a ha
theorem addE_zero {A : List Au} {d : Df} (h : addE A l d = 0) : dchk d = 0 ∧ isAu A d.g d.au = true ∧ aget l (idI d.id) = none ∧ l.length < 4096 := by
  unfold addE at h
  split at h
  · exact absurd h (by assumption)
  rename_i h1
  split at h
  · cases h
  rename_i h2
  split at h
  · cases h
  rename_i h3
  split at h
  · cases h
  refine ⟨Classical.byContradiction h1, by simpa using h2, ?_, by omega⟩
  cases hg : aget l (idI d.id) with
  | none => rfl
  | some x => rw [hg] at h3; exact absurd rfl h3
end

/-! ### A box of two slices is written -/
section
variable {w w' : World} {b mb : Nat} {A : List Au} {l : List (List Int × DX)} {n1 : Nat} {q1 q2 : Option Addr} {k1 c1 k2 c2 : Nat}
end

/-! ### Play -/
/-- An operation. -/
structure OpY where
  dr : Bool
  x : DX
def opC (o : OpY) : List Value := [.bool o.dr] ++ dfC o.x
/-- What Play leaves: a registry and the reference's state that say the same. -/
structure PlayI (w w' : World) (b mb : Nat) (A : List Au) (ap : Option Addr) (ac : Nat) (l : List (List Int × DX)) (ds : List DX) (dp : Option Addr) (dc : Nat) : Prop where
  k : K0 w w'
  gb : w.heap.size ≤ b
  gm : w.heap.size ≤ mb
  reg : Reg w' b mb A l
  row : RowA atC 17 w' ap A
  sr : SR w' ds dp dc
  dl : DL l ds
structure AuOK (A : List Au) : Prop where
  len : A.length ≤ 64
  by_ : ∀ x ∈ A, BY x.au
  sz : ∀ x ∈ A, x.pt.size ≤ 1073741824
  all : ∀ x ∈ A, ∃ es, listR x.pt = .inl es
theorem PlayI.k0 {w w' w2 : World} {b mb : Nat} {A : List Au} {ap : Option Addr} {ac : Nat} {l : List (List Int × DX)} {ds : List DX} {dp : Option Addr} {dc : Nat} (h : PlayI w w' b mb A ap ac l ds dp dc) (hk : K0 w' w2) : PlayI w w2 b mb A ap ac l ds dp dc :=
  ⟨h.k.trans hk, h.gb, h.gm, h.reg.k0 hk, h.row.k0 hk, h.sr.k0 hk, h.dl⟩
end Go.Proofs.YtkkfnlehlkiejaaGreatDoor

/- Chapter 21: worlds of authorities and operations as arguments, with their sizes. No condition. -/
namespace Go.Proofs.YtkkfnlehlkiejaaGreatDoor
open Go.ChangeShapes Go.WideShapes Go.ChangeAt Go.RowKit Go.Deep

instance : Inhabited OpY := ⟨⟨false, dxz⟩⟩
section
variable {H : Type} {enc : TypeId × Value → H} {W : World} {base : Nat} {v : Value}
theorem cellsOp21 : Tryz.prog.cellsOf 84 = 55 := by kernel_rfl
theorem cellsW21 : Tryz.prog.cellsOf 42 = 2 := by kernel_rfl
set_option maxRecDepth 100000 in
theorem rw_Op {l : List Value} (hl : l.length = 55) (hr : Rw enc Tryz.prog W 84 l) : ∃ o : OpY, l = opC o ∧ DfR W o.x := by
  obtain ⟨b0, e0⟩ := Rw.bool (cs := (l.drop 0).take 1) (hr.field Tryz.underlying84 (i := 0) rfl) Tryz.underlying4
  obtain ⟨x, e1, hx⟩ := rw_D (l := (l.drop 1).take 54) (by simp [hl]) (hr.field Tryz.underlying84 (i := 1) rfl)
  refine ⟨⟨b0, x⟩, ?_, hx⟩
  have e0 : l.take 1 = [.bool b0] := e0
  rw [List.take_of_length_le (by simp [hl])] at e1
  rw [← List.take_append_drop 1 l, e0, e1]; rfl
set_option maxRecDepth 100000 in
/-- Operations that were read. -/
theorem open_Ops {cs : List Value} (hr : Rw enc Tryz.prog W 40 cs) : ∃ (p : Option Addr) (l : List OpY) (c : Nat), cs = [.slice p l.length c] ∧ RowA opC 55 W p l ∧ ∀ o ∈ l, DfR W o.x := by
  obtain ⟨p, n, c, hcs, hnc, hby, _, hel⟩ := hr.slice Tryz.underlying40 (by rw [cellsOp21]; decide)
  rw [cellsOp21] at hel
  have key : ∀ i, i < n → ∃ y : OpY, (∃ b o, p = some ⟨b, o, none⟩ ∧ AtL W b (o + i * 55) (opC y)) ∧ DfR W y.x := fun i hi => by
    obtain ⟨b, o, cs', hp, hl, hc, hrw⟩ := hel i hi
    obtain ⟨y, e, hy⟩ := rw_Op hl hrw
    subst e
    exact ⟨y, ⟨b, o, hp, ⟨At_of _ _ fun j v hv => hc j v hv⟩⟩, hy⟩
  obtain ⟨l, hlen, hL⟩ := list_of key
  exact ⟨p, l, c, by rw [hlen]; exact hcs, fun k y hy => (hL k y hy).1, fun h hh => by
    obtain ⟨j, hj, e⟩ := List.getElem_of_mem hh
    exact (hL j h (by rw [List.getElem?_eq_getElem hj, e])).2⟩
set_option maxRecDepth 100000 in
theorem openw_W (hv : Value.okWide Tryz.prog W .any base 42 v) (hr : Rw enc Tryz.prog W 42 v.cells.toList) : ∃ (ap : Option Addr) (As : List Au) (ac : Nat) (op : Option Addr) (Os : List OpY) (oc : Nat), v = .agg #[.slice ap As.length ac, .slice op Os.length oc] ∧ RowA atC 17 W ap As ∧ (∀ x ∈ As, BY x.au) ∧ RowA opC 55 W op Os ∧ ∀ o ∈ Os, DfR W o.x := by
  obtain ⟨cs, rfl, hsz⟩ := okWide_struct Tryz.underlying42 hv
  rw [cellsW21] at hsz
  obtain ⟨l⟩ := cs
  have hsz : l.length = 2 := hsz
  match l, hsz with
  | [c0, c1], _ =>
    have hr : Rw enc Tryz.prog W 42 [c0, c1] := hr
    obtain ⟨ap, As, ac, e0, h1, h2⟩ := open_As (cs := [c0]) (hr.field Tryz.underlying42 (i := 0) rfl)
    obtain ⟨op, Os, oc, e1, h3, h4⟩ := open_Ops (cs := [c1]) (hr.field Tryz.underlying42 (i := 1) rfl)
    simp only [List.cons.injEq, and_true] at e0 e1
    subst e0 e1
    exact ⟨ap, As, ac, op, Os, oc, rfl, h1, h2, h3, h4⟩
end

end Go.Proofs.YtkkfnlehlkiejaaGreatDoor

/- A byte as an argument, with its size. No condition. -/
namespace Go.Proofs.YtkkfnlehlkiejaaGreatDoor
open Go.ChangeShapes Go.WideShapes Go.ChangeAt Go.RowKit Go.Deep

set_option maxRecDepth 100000 in
theorem openw_u8 {H : Type} {enc : TypeId × Value → H} {W : World} {base : Nat} {v : Value} (hv : Value.okWide Tryz.prog W .any base 5 v) (hr : Rw enc Tryz.prog W 5 v.cells.toList) : ∃ x : Nat, v = .int .u8 (x : Int) ∧ x ≤ 255 := by
  obtain ⟨x, rfl⟩ := okWide_int Tryz.underlying5 hv
  obtain ⟨y, h, hz⟩ := hr.int8 Tryz.underlying5
  have h : [Value.int .u8 x] = [.int .u8 y] := h
  simp only [List.cons.injEq, Value.int.injEq, and_true, true_and] at h
  subst h
  refine ⟨x.toNat, ?_, by omega⟩
  congr 1
  omega

end Go.Proofs.YtkkfnlehlkiejaaGreatDoor

/- The formulas of functions by the symbolic evaluator, and that each gives the call's contract. Written by a program (gen.py). No condition. -/
namespace Go.Proofs.YtkkfnlehlkiejaaGreatDoor
set_option maxRecDepth 100000
set_option linter.unusedVariables false

end Go.Proofs.YtkkfnlehlkiejaaGreatDoor

/- Chapter 21: the contracts of the reference's less, Versions, Current; what is in force. Lists that are not too long. -/
namespace Go.Proofs.YtkkfnlehlkiejaaGreatDoor
open Go.RowKit Go.Maps

/-! ### Plain -/
def verF (ds : List DX) (s : ByteArray) : List DX := ds.filter fun y => decide (y.d.g = s)
theorem perm_uniq21 {α : Type} {R : α → α → Prop} : ∀ {l1 l2 : List α}, l1.Perm l2 → l1.Pairwise R → l2.Pairwise R → (∀ a ∈ l1, ∀ b ∈ l1, R a b → R b a → a = b) → l1 = l2
  | [], l2, hp, _, _, _ => (List.nil_perm.1 hp).symm
  | a :: r, [], hp, _, _, _ => by have := hp.length_eq; simp at this
  | a :: r, b :: s, hp, h1, h2, anti => by
    have hab : a = b := Classical.byContradiction fun hne => by
      have h3 : a ∈ s := by
        rcases List.mem_cons.1 (hp.subset List.mem_cons_self) with h | h
        · exact absurd h hne
        · exact h
      have h4 : b ∈ r := by
        rcases List.mem_cons.1 (hp.symm.subset List.mem_cons_self) with h | h
        · exact absurd h.symm hne
        · exact h
      exact hne (anti a List.mem_cons_self b (List.mem_cons_of_mem _ h4) ((List.pairwise_cons.1 h1).1 b h4) ((List.pairwise_cons.1 h2).1 a h3))
    subst hab
    rw [perm_uniq21 (List.Perm.cons_inv hp) (List.pairwise_cons.1 h1).2 (List.pairwise_cons.1 h2).2 fun x hx y hy => anti x (List.mem_cons_of_mem _ hx) y (List.mem_cons_of_mem _ hy)]
theorem u8_inj {x y : Int} (hx : 0 ≤ x ∧ x ≤ 255) (hy : 0 ≤ y ∧ y ≤ 255) (h : x.toNat.toUInt8 = y.toNat.toUInt8) : x = y := by
  have h1 : x.toNat.toUInt8.toNat = y.toNat.toUInt8.toNat := by rw [h]
  rw [UInt8.toNat_ofNat', UInt8.toNat_ofNat'] at h1
  omega
theorem idB_inj {f g : Nat → Int} (hf : BY f) (hg : BY g) (h : idB f = idB g) : idI f = idI g := by
  apply List.ext_getElem?
  intro j
  by_cases hj : j < 32
  · rw [idI_get f hj, idI_get g hj]
    have h1 := congrArg (fun z => z[j]?) h
    simp only [idB, List.getElem?_map, idI_get f hj, idI_get g hj, Option.map_some, Option.some.injEq] at h1
    rw [u8_inj (hf j) (hg j) h1]
  · rw [List.getElem?_eq_none (by simp [idI]; omega), List.getElem?_eq_none (by simp [idI]; omega)]
theorem cfd_zero {a b : Df} (ha : a.OK) (hb : b.OK) (h : cfd a b = 0) : idI a.id = idI b.id := by
  unfold cfd cfD at h
  split at h
  · exact absurd h (by assumption)
  unfold cfP at h
  split at h
  · exact absurd h (by assumption)
  exact idB_inj ha.id hb.id (cb_zero _ _ h)
theorem cfd_anti (a b : Df) : cfd a b = - cfd b a := cfD_ord.anti ⟨a, none, 0⟩ ⟨b, none, 0⟩
section
variable {l : List (List Int × DX)} {ds : List DX}
theorem pair_same {l : List (List Int × DX)} (h : l.Pairwise fun p q => p.1 ≠ q.1) {p q : List Int × DX} (hp : p ∈ l) (hq : q ∈ l) (he : p.1 = q.1) : p = q := by
  obtain ⟨i, hi, e1⟩ := List.getElem_of_mem hp
  obtain ⟨j, hj, e2⟩ := List.getElem_of_mem hq
  rcases Nat.lt_trichotomy i j with h1 | h1 | h1
  · have := List.pairwise_iff_getElem.1 h i j hi hj h1
    rw [e1, e2] at this
    exact absurd he this
  · subst h1; rw [← e1, ← e2]
  · have := List.pairwise_iff_getElem.1 h j i hj hi h1
    rw [e1, e2] at this
    exact absurd he.symm this
theorem DL.uniq (h : DL l ds) {a b : DX} (ha : a ∈ ds) (hb : b ∈ ds) (he : idI a.d.id = idI b.d.id) : a.d = b.d := by
  obtain ⟨i, hi⟩ := List.getElem?_of_mem ha
  obtain ⟨j, hj⟩ := List.getElem?_of_mem hb
  obtain ⟨x, h1, h2⟩ := h.at hi
  obtain ⟨y, h3, h4⟩ := h.at hj
  have := pair_same h.dis (List.mem_of_getElem? h1) (List.mem_of_getElem? h3) he
  have e : x = y := (Prod.mk.inj this).2
  rw [← h2, ← h4, e]
theorem DL.acc (h : DL l ds) (P : Df → Bool) : accL (fun x => P x.d) l = (ds.filter fun y => P y.d).map fun y => y.d := by
  have e1 : accL (fun x => P x.d) l = ((l.map (·.2)).map (fun x : DX => x.d)).filter P := by simp only [accL, List.filter_map, Function.comp_def]
  have e2 : (ds.filter fun y => P y.d).map (fun y => y.d) = (ds.map fun y => y.d).filter P := by rw [List.filter_map]; rfl
  rw [e1, e2, h.eq, List.map_map]; rfl
/-- What the program lists of a group is what the reference lists. -/
theorem DL.vers (h : DL l ds) (hok : ∀ y ∈ ds, y.d.OK) {s : ByteArray} {cs out : List DX} (hV : VerL l s cs) (hp : out.Perm (verF ds s)) (hs : out.Pairwise fun x y => ¬ cfP y x < 0) : cs.map (fun x => x.d) = out.map fun x => x.d := by
  have hacc := h.acc (fun d => decide (d.g = s))
  have hpc : (cs.map fun x => x.d).Perm ((verF ds s).map fun x => x.d) := by
    have := hV.1
    rw [hacc] at this
    exact this
  have hpo : (out.map fun x => x.d).Perm ((verF ds s).map fun x => x.d) := hp.map _
  have hgo : ∀ x ∈ out, x.d.g = s := fun x hx => by
    have := (List.mem_filter.1 (hp.subset hx)).2
    simpa using this
  refine perm_uniq21 (R := fun a b => ¬ cfd b a < 0) (hpc.trans hpo.symm) ?_ ?_ ?_
  · rw [List.pairwise_map]; exact hV.2
  · rw [List.pairwise_map]
    refine (List.pairwise_iff_getElem.2 fun i j hi hj hij => ?_)
    have h1 := List.pairwise_iff_getElem.1 hs i j hi hj hij
    have e1 := hgo out[i] (List.getElem_mem hi)
    have e2 := hgo out[j] (List.getElem_mem hj)
    show ¬ cfD out[j] out[i] < 0
    have e3 : cfG out[j] out[i] = 0 := by unfold cfG; rw [e1, e2]; exact cb_self _
    unfold cfD
    rw [if_neg (by rw [e3]; decide)]
    exact h1
  · intro a ha b hb h1 h2
    have ha := hpc.subset ha
    have hb := hpc.subset hb
    obtain ⟨x, hx, rfl⟩ := List.mem_map.1 ha
    obtain ⟨y, hy, rfl⟩ := List.mem_map.1 hb
    have hx := (List.mem_filter.1 hx).1
    have hy := (List.mem_filter.1 hy).1
    have h3 := cfd_anti x.d y.d
    exact h.uniq hx hy (cfd_zero (hok x hx) (hok y hy) (by omega))
end
/-- What is in force, of the definitions in the order in which they prevail. -/
def headD (L : List Df) : Option Df := match L with | d :: _ => if d.rm = true then none else some d | [] => none
theorem headC_d (cs : List DX) : (headC cs).map (fun x => x.d) = headD (cs.map fun x => x.d) := by
  cases cs with
  | nil => rfl
  | cons x r =>
    show (if x.d.rm = true then none else some x : Option DX).map _ = if x.d.rm = true then none else some x.d
    split <;> rfl
theorem headC_is (cs : List DX) : (headC cs).isSome = (headD (cs.map fun x => x.d)).isSome := by rw [← headC_d, Option.isSome_map]
theorem headC_get (cs : List DX) : ((headC cs).getD dxz).d = (headD (cs.map fun x => x.d)).getD dz := by
  rw [← headC_d]
  cases headC cs <;> rfl
theorem headC_mem {cs : List DX} {x : DX} (h : headC cs = some x) : x ∈ cs := by
  cases cs with
  | nil => cases h
  | cons y r =>
    have h : (if y.d.rm = true then none else some y) = some x := h
    split at h
    · cases h
    · cases h; simp

/-! ### The reference -/
end Go.Proofs.YtkkfnlehlkiejaaGreatDoor

/- The formulas of functions by the symbolic evaluator, and that each gives the call's contract. Written by a program (gen.py). No condition. -/
namespace Go.Proofs.YtkkfnlehlkiejaaGreatDoor
set_option maxRecDepth 100000
set_option linter.unusedVariables false

def VC_requal (x : Option Addr) (y : Option Addr) (w : World) (R : Ending → World → Prop) : Prop :=
 bsp (x.isNone || y.isNone) (R (Ending.returned (Value.bool (x.isNone && y.isNone))) w)
 (∀ (W : World),
 Loc w.heap.size [] w W →
 ∃ (S : World → Prop),
 S W ∧
 nn true x fun (b o : Nat) =>
 ∃ (p : Option Addr),
 ∃ (n : Nat),
 ∃ (c : Nat),
 (∀ (w' : World), S w' → w'.cell? (Addr.mk b o none) = some (Value.slice p n c)) ∧
 nn true y fun (b o : Nat) =>
 ∃ (p_1 : Option Addr),
 ∃ (n_1 : Nat),
 ∃ (c_1 : Nat),
 (∀ (w' : World), S w' → w'.cell? (Addr.mk b o none) = some (Value.slice p_1 n_1 c_1)) ∧
 CallsS Tryz.prog 63 #[Value.slice p n c, Value.slice p_1 n_1 c_1] W fun (e : Ending) (w' : World) =>
 ∃ (x_1 : Bool),
 e = Ending.returned (Value.bool x_1) ∧
 S w' ∧
 nn x_1 x fun (b o : Nat) =>
 ∃ (x : Option Nat),
 gimp x_1 (∀ (w' : World), S w' → w'.cell? (Addr.mk b (o + 2) none) = some (Value.map x)) ∧
 nn x_1 y fun (b o : Nat) =>
 ∃ (x_2 : Option Nat),
 gimp x_1 (∀ (w' : World), S w' → w'.cell? (Addr.mk b (o + 2) none) = some (Value.map x_2)) ∧
 bsp x_1
 (CallsS Tryz.prog 64 #[Value.map x, Value.map x_2, Value.func (Fn.func 27) #[] #[]] w'
 fun (e : Ending) (w' : World) =>
 ∃ (x : Bool),
 e = Ending.returned (Value.bool x) ∧
 KeptL [] W w' ∧ R (Ending.returned (Value.bool (true && x))) w')
 (KeptL [] W w' ∧ R (Ending.returned (Value.bool false)) w'))
theorem vc_requal (x : Option Addr) (y : Option Addr) (w : World) (R : Ending → World → Prop) (h : VC_requal x y w R) : Calls Tryz.prog 41 ([Value.pointer
    x,
  Value.pointer y] : List Value).toArray w R := by
  have e : execR2 { P := Tryz.prog, loops := [], pur := pur1, tails := [(3, 8)], joins := [], boxes := [] } Tryz.f41.results.toList R (Tryz.f41.body.getD .skip) (initF [Value.pointer
    x,
  Value.pointer
    y] (Tryz.f41.ntmps - ([Value.pointer x,
  Value.pointer y] : List Value).length)) w = VC_requal x y w R := by kernel_rfl
  have hb : Tryz.f41.body = some (Tryz.f41.body.getD .skip) := by kernel_rfl
  exact calls_of_exec2' (P := Tryz.prog) (fn := Tryz.f41) (c := Tryz.f41.body.getD .skip) (args := [Value.pointer x,
  Value.pointer y]) (w := w) (R := R) pur1_ok Tryz.func41 hb e h

def VC_aueq (p : Option Addr) (n : Nat) (c : Nat) (q : Option Addr) (k : Nat) (d : Nat) (w : World) (R : Ending → World → Prop) : Prop :=
 bsp ((↑n : Int) != (↑k : Int)) (R (Ending.returned (Value.bool false)) w)
 (∃ (I : List Value → World → Prop),
 ∃ (m : List Value → World → Nat),
 I [Value.int IntKind.i64 0] w ∧
 ∀ (x : Int) (w' : World),
 I [Value.int IntKind.i64 x] w' →
 bsp (decide (x < (↑n : Int)))
 (nn true p fun (b o : Nat) =>
 (0 ≤ x ∧ x < (↑n : Int)) ∧
 ∃ (x_1 : ByteArray),
 ∃ (f : Nat → Int),
 (∀ (W : World),
 Loc w.heap.size [] w' W →
 AtL W b (o + x.toNat * 17)
 ([Value.string x_1] ++ arrI IntKind.u8 f 16 0)) ∧
 nn true q fun (b o : Nat) =>
 (0 ≤ x ∧ x < (↑k : Int)) ∧
 ∃ (x_2 : ByteArray),
 ∃ (f_1 : Nat → Int),
 (∀ (W : World),
 Loc w.heap.size [] w' W →
 AtL W b (o + x.toNat * 17)
 ([Value.string x_2] ++ arrI IntKind.u8 f_1 16 0)) ∧
 ∃ (r : Bool),
 EqP Tryz.prog 94
 (Value.agg
 ([Value.string x_1] ++ arrI IntKind.u8 f 16 0).toArray)
 (Value.agg
 ([Value.string x_2] ++ arrI IntKind.u8 f_1 16 0).toArray)
 r ∧
 bsp (!r) (∀ (W : World), Loc w.heap.size [] w' W → R (Ending.returned (Value.bool false)) W)
 (∀ (W : World),
 Loc w.heap.size [] w' W →
 I [Value.int IntKind.i64 (IntKind.i64.wrap (x + 1))] W ∧
 m [Value.int IntKind.i64 (IntKind.i64.wrap (x + 1))] W < m [Value.int IntKind.i64 x] w'))
 (R (Ending.returned (Value.bool true)) w'))
theorem vc_aueq (p : Option Addr) (n : Nat) (c : Nat) (q : Option Addr) (k : Nat) (d : Nat) (w : World) (R : Ending → World → Prop) (h : VC_aueq p n c q k d w R) : Calls Tryz.prog 63 ([Value.slice
    p n c,
  Value.slice q k d] : List Value).toArray w R := by
  have e : execR2 { P := Tryz.prog, loops := [(4, [(13, Ck.int IntKind.i64)])], pur := pur1, tails := [], joins := [], boxes := [] } Tryz.f63.results.toList R (Tryz.f63.body.getD .skip) (initF [Value.slice
    p n c,
  Value.slice q k
    d] (Tryz.f63.ntmps - ([Value.slice p n c,
  Value.slice q k d] : List Value).length)) w = VC_aueq p n c q k d w R := by kernel_rfl
  have hb : Tryz.f63.body = some (Tryz.f63.body.getD .skip) := by kernel_rfl
  exact calls_of_exec2' (P := Tryz.prog) (fn := Tryz.f63) (c := Tryz.f63.body.getD .skip) (args := [Value.slice p n c,
  Value.slice q k d]) (w := w) (R := R) pur1_ok Tryz.func63 hb e h

end Go.Proofs.YtkkfnlehlkiejaaGreatDoor

/- The formulas of functions by the symbolic evaluator, and that each gives the call's contract. Written by a program (gen.py). No condition. -/
namespace Go.Proofs.YtkkfnlehlkiejaaGreatDoor
set_option maxRecDepth 100000
set_option linter.unusedVariables false

def VC_mapeq (x : Option Nat) (y : Option Nat) (f : FuncId) (fa : Array Value) (fb : Array Value) (w : World) (R : Ending → World → Prop) : Prop :=
 ∃ (n : Int),
 LenP Tryz.prog 96 (Value.map x) n w ∧
 ∃ (n_1 : Int),
 LenP Tryz.prog 96 (Value.map y) n_1 w ∧
 bsp (n != n_1) (R (Ending.returned (Value.bool false)) w)
 (∃ (n : Nat),
 ∃ (w1 : World),
 RngP Tryz.prog 96 (Value.map x) n w w1 ∧
 KeptL [] w w1 ∧
 ∃ (I : List Value → World → Prop),
 ∃ (m : List Value → World → Nat),
 I [] w1 ∧
 ∀ (w' : World),
 I [] w' →
 ∃ (b : Bool),
 ∃ (r : List Value),
 ∃ (w1 : World),
 NxtP Tryz.prog (Value.pointer (some (Addr.mk n 0 none))) b r w' w1 ∧
 KeptL [] w' w1 ∧
 bsp b
 (∃ (f_1 : Nat → Int),
 ∃ (f_2 : Nat → Int),
 ∃ (f_3 : Nat → Int),
 ∃ (x : ByteArray),
 ∃ (x_1 : Int),
 ∃ (x_2 : Bool),
 ∃ (x_3 : Bool),
 ∃ (p : Option Addr),
 ∃ (n_2 : Nat),
 ∃ (c : Nat),
 ∃ (x_4 : ByteArray),
 EntP Tryz.prog (Value.pointer (some (Addr.mk n 0 none)))
 (Value.tuple
 #[Value.agg
 (arrI IntKind.u8 f_1 32 0).toArray,
 Value.agg
 (arrI IntKind.u8 f_2 32 0 ++ (arrI IntKind.u8 f_3 16 0 ++ [Value.string x,
 Value.int IntKind.i64 x_1, Value.bool x_2, Value.bool x_3, Value.slice p n_2 c,
 Value.string x_4])).toArray])
 w1 ∧
 ∀ (n n_3 : Nat),
 ∃ (f_4 : Nat → Int),
 ∃ (f_5 : Nat → Int),
 ∃ (x_5 : ByteArray),
 ∃ (x_6 : Int),
 ∃ (x_7 : Bool),
 ∃ (x_8 : Bool),
 ∃ (p_1 : Option Addr),
 ∃ (n_4 : Nat),
 ∃ (c_1 : Nat),
 ∃ (x_9 : ByteArray),
 ∃ (b : Bool),
 (∀ (W : World),
 Loc w.heap.size
 [Blk.mk n_3 56
 (arrI IntKind.u8 f_2 32 0 ++ (arrI IntKind.u8 f_3 16 0 ++ [Value.string x, Value.int IntKind.i64 x_1, Value.bool x_2,
 Value.bool x_3, Value.slice p n_2 c, Value.string x_4]))
 (wrM 2),
 Blk.mk n 52
 (arrI IntKind.u8 f_1 32 0)
 (wrM 2)]
 w1 W →
 LookP Tryz.prog 96 (Value.map y)
 (Value.agg
 (arrI IntKind.u8 f_1 32 0).toArray)
 true
 (Value.tuple
 #[Value.agg
 (arrI IntKind.u8 f_4 32 0 ++ (arrI IntKind.u8 f_5 16 0 ++ [Value.string x_5, Value.int IntKind.i64 x_6, Value.bool x_7,
 Value.bool x_8, Value.slice p_1 n_4 c_1, Value.string x_9])).toArray,
 Value.bool b])
 W) ∧
 ∀ (n_5 : Nat) (W : World),
 Loc w.heap.size
 [Blk.mk n_5 56
 (arrI IntKind.u8 f_4 32 0 ++ (arrI IntKind.u8 f_5 16 0 ++ [Value.string x_5, Value.int IntKind.i64 x_6, Value.bool x_7,
 Value.bool x_8, Value.slice p_1 n_4 c_1, Value.string x_9]))
 (wrM 2),
 Blk.mk n_3 56
 (arrI IntKind.u8 f_2 32 0 ++ (arrI IntKind.u8 f_3 16 0 ++ [Value.string x, Value.int IntKind.i64 x_1, Value.bool x_2,
 Value.bool x_3, Value.slice p n_2 c, Value.string x_4]))
 (wrM 2),
 Blk.mk n 52
 (arrI IntKind.u8 f_1 32 0)
 (wrM 2)]
 w1 W →
 bsp (!!b)
 (∃ (f_6 : Nat),
 ∃ (a : Array Value),
 ∃ (b : Array Value),
 Value.func (Fn.func f) fa fb = Value.func (Fn.func f_6) a b ∧
 okFn Tryz.prog f_6 = true ∧
 CallsS Tryz.prog f_6
 (appA a
 [Value.agg
 (arrI IntKind.u8 f_2 32 0 ++ (arrI IntKind.u8 f_3 16 0 ++ [Value.string x, Value.int IntKind.i64 x_1, Value.bool x_2,
 Value.bool x_3, Value.slice p n_2 c, Value.string x_4])).toArray,
 Value.agg
 (arrI IntKind.u8 f_4 32 0 ++ (arrI IntKind.u8 f_5 16 0 ++ [Value.string x_5, Value.int IntKind.i64 x_6, Value.bool x_7,
 Value.bool x_8, Value.slice p_1 n_4 c_1, Value.string x_9])).toArray]
 b)
 W fun (e : Ending) (w'_1 : World) =>
 ∃ (x : Bool),
 e = Ending.returned (Value.bool x) ∧
 KeptL [n_5, n_3, n] W w'_1 ∧
 bsp (false || !x) (R (Ending.returned (Value.bool false)) w'_1)
 (I [] w'_1 ∧ m [] w'_1 < m [] w'))
 (KeptL [n_5, n_3, n] W W ∧ R (Ending.returned (Value.bool false)) W))
 (R (Ending.returned (Value.bool true)) w1))
theorem vc_mapeq (x : Option Nat) (y : Option Nat) (f : FuncId) (fa : Array Value) (fb : Array Value) (w : World) (R : Ending → World → Prop) (h : VC_mapeq x y f fa fb w R) : Calls Tryz.prog 64 ([Value.map
    x,
  Value.map y, Value.func (Fn.func f) fa fb] : List Value).toArray w R := by
  have e : execR2 { P := Tryz.prog, loops := [(4, [])], pur := pur1, tails := [], joins := [], boxes := [], rngs := [(17, 96)] } Tryz.f64.results.toList R (Tryz.f64.body.getD .skip) (initF [Value.map
    x,
  Value.map y,
  Value.func (Fn.func f) fa
    fb] (Tryz.f64.ntmps - ([Value.map x, Value.map y,
  Value.func (Fn.func f) fa fb] : List Value).length)) w = VC_mapeq x y f fa fb w R := by kernel_rfl
  have hb : Tryz.f64.body = some (Tryz.f64.body.getD .skip) := by kernel_rfl
  exact calls_of_exec2' (P := Tryz.prog) (fn := Tryz.f64) (c := Tryz.f64.body.getD .skip) (args := [Value.map x,
  Value.map y, Value.func (Fn.func f) fa fb]) (w := w) (R := R) pur1_ok Tryz.func64 hb e h

end Go.Proofs.YtkkfnlehlkiejaaGreatDoor
