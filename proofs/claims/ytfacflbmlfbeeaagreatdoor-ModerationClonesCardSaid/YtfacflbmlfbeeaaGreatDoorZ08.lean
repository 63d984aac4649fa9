/- Chapter 39: the reference's comparisons, minute, holder, command, same. Bytes are bytes; names are not too long. -/
import Derived.Test.YtfacflbmlfbeeaaGreatDoorZ07
import Derived.Test.YtfacflbmlfbeeaaGreatDoorZ05
import Derived.Test.YtfacflbmlfbeeaaGreatDoorZ06
import Derived.Test.YtfacflbmlfbeeaaGreatDoorProg
import Derived.Test.YtfacflbmlfbeeaaGreatDoorZ02
import Derived.Test.YtfacflbmlfbeeaaGreatDoorZ04
import Derived.Test.YtfacflbmlfbeeaaGreatDoorZ03
import Derived.KernelRfl
namespace Go.Proofs.YtfacflbmlfbeeaaGreatDoor
open Go.RowKit Go.Sort Go.Maps
theorem u8_lt39 {x y : Int} (hx : 0 <= x /\ x <= 255) (hy : 0 <= y /\ y <= 255) : x.toNat.toUInt8 < y.toNat.toUInt8 ↔ x < y := by
 rw [UInt8.lt_iff_toNat_lt, UInt8.toNat_ofNat', UInt8.toNat_ofNat']
 omega
theorem cb_at39 : ∀ (l m : List UInt8) (i : Nat) (x y : UInt8), (∀ j, j < i -> l[j]? = m[j]?) -> l[i]? = some x -> m[i]? = some y -> x ≠ y -> Lib.compareBytes l m = if x < y then -1 else 1
 | [], _, i, x, y, _, h, _, _ => by simp at h
 | _ :: _, [], i, x, y, _, _, h, _ => by simp at h
 | a :: l, b :: m, 0, x, y, _, h1, h2, hne => by
  simp only [List.getElem?_cons_zero, Option.some.injEq] at h1 h2
  subst h1 h2
  unfold Lib.compareBytes
  by_cases h : a < b
  ·rw [if_pos h, if_pos h]
  ·rw [if_neg h, if_neg h, if_pos]
   refine Classical.byContradiction fun h2 => hne (UInt8.le_antisymm (UInt8.not_lt.1 h2) (UInt8.not_lt.1 h))
 | a :: l, b :: m, i + 1, x, y, h, h1, h2, hne => by
  have h0 := h 0 (by omega)
  simp only [List.getElem?_cons_zero, Option.some.injEq] at h0
  subst h0
  unfold Lib.compareBytes
  rw [if_neg (UInt8.lt_irrefl _), if_neg (UInt8.lt_irrefl _)]
  exact cb_at39 l m i x y (fun j hj => by have := h (j + 1) (by omega); simpa using this) (by simpa using h1) (by simpa using h2) hne
theorem cb_val39 : ∀ a b : List UInt8, Lib.compareBytes a b = -1 \/ Lib.compareBytes a b = 0 \/ Lib.compareBytes a b = 1
 | [], [] => .inr (.inl rfl)
 | [], _ :: _ => .inl rfl
 | _ :: _, [] => .inr (.inr rfl)
 | a :: l, b :: m => by
  unfold Lib.compareBytes
  split
  ·exact .inl rfl
  ·split
   ·exact .inr (.inr rfl)
   ·exact cb_val39 l m
theorem cb_fun39 {n : Nat} {f g : Nat -> Int} (hf : BY f) (hg : BY g) {i : Nat} (hi : i < n) (he : ∀ j, j < i -> f j = g j) :
  (f i < g i -> Lib.compareBytes (((List.range n).map f).map fun x => x.toNat.toUInt8) (((List.range n).map g).map fun x => x.toNat.toUInt8) = -1) /\ (g i < f i -> Lib.compareBytes (((List.range n).map f).map fun x => x.toNat.toUInt8) (((List.range n).map g).map fun x => x.toNat.toUInt8) = 1) := by
 have key : ∀ (f : Nat -> Int) (j : Nat), j < n -> (((List.range n).map f).map fun x => x.toNat.toUInt8)[j]? = some (f j).toNat.toUInt8 := fun f j hj => by simp [hj]
 have hc : ∀ h : (f i).toNat.toUInt8 ≠ (g i).toNat.toUInt8, _ := fun h => cb_at39 _ _ i _ _ (fun j hj => by rw [key f j (by omega), key g j (by omega), he j hj]) (key f i hi) (key g i hi) h
 constructor
 ·intro h
  have h1 := (u8_lt39 (hf i) (hg i)).2 h
  rw [hc (fun e => by rw [e] at h1; exact UInt8.lt_irrefl _ h1), if_pos h1]
 ·intro h
  have h1 := (u8_lt39 (hg i) (hf i)).2 h
  rw [hc (fun e => by rw [e] at h1; exact UInt8.lt_irrefl _ h1), if_neg (fun h2 => UInt8.lt_asymm h1 h2)]
set_option maxRecDepth 100000 in
set_option maxHeartbeats 1000000 in
theorem xcmp_any (f g : Nat -> Int) (hf : BY f) (hg : BY g) (w : World) : Calls Tryz.prog 54 #[.agg (arrI .u8 f 16 0).toArray, .agg (arrI .u8 g 16 0).toArray] w fun e w' => e = .returned (.int .i64 (cfA f g)) /\ K0 w w' := by
 refine vc_xcmp f g w _ (fun n n1 W hW => ?_)
 have kW : K0 w W := hW.kk rfl
 have c0 := hW.cells 0 rfl
 have c1 := hW.cells 1 rfl
 have cf : ∀ {W' : World} {i : Nat}, K0 W W' -> i < 16 -> W'.cell? ⟨n, 0 + i, none⟩ = some (.int .u8 (f i)) := fun k hi => by
  rw [Nat.zero_add]
  exact cell_at (k.blk c1 (fun h => h)) (by simpa using arrI_get .u8 f 16 0 _ hi)
 have cg : ∀ {W' : World} {i : Nat}, K0 W W' -> i < 16 -> W'.cell? ⟨n1, 0 + i, none⟩ = some (.int .u8 (g i)) := fun k hi => by
  rw [Nat.zero_add]
  exact cell_at (k.blk c0 (fun h => h)) (by simpa using arrI_get .u8 g 16 0 _ hi)
 clear hW c0 c1
 refine ⟨fun vs w' => ∃ i : Nat, vs = [.int .i64 (i : Int)] /\ i <= 16 /\ (∀ j, j < i -> f j = g j) /\ K0 W w', fun vs _ => (match vs with | .int _ a :: _ => 16 - a.toNat | _ => 0), ⟨0, rfl, by omega, fun j h => by omega, .refl _ _⟩, ?_⟩
 rintro x w1 ⟨i, hv, hi, he, k1⟩
 simp only [List.cons.injEq, Value.int.injEq, true_and, and_true] at hv
 subst hv
 refine bsp_intro (fun hlt => fun W1 hW1 => ?_) (fun hge => ?_)
 ·have hlt : i < 16 := by simp at hlt; omega
  have k2 := k1.trans (hW1.kk rfl)
  rw [Int.toNat_natCast]
  refine ⟨⟨by omega, by omega⟩, f i, cf k2 hlt, ⟨by omega, by omega⟩, g i, cg k2 hlt, bsp_intro (fun h => ?_) (fun h W2 hW2 => ?_)⟩
  ·have h : f i < g i := by simpa using h
   have e : cfA f g = -1 := (cb_fun39 hf hg hlt he).1 h
   exact ⟨by rw [e], kW.trans k2⟩
  ·have h : ¬ f i < g i := by simpa using h
   have k3 := k2.trans (hW2.kk rfl)
   refine ⟨⟨by omega, by omega⟩, f i, cf k3 hlt, ⟨by omega, by omega⟩, g i, cg k3 hlt, bsp_intro (fun h2 => ?_) (fun h2 => ?_)⟩
   ·have h2 : g i < f i := by simpa using h2
    have e : cfA f g = 1 := (cb_fun39 hf hg hlt he).2 h2
    exact ⟨by rw [e], kW.trans k3⟩
   ·have h2 : ¬ g i < f i := by simpa using h2
    rw [inc64 (by omega)]
    refine ⟨⟨i + 1, rfl, by omega, fun j hj => ?_, k3⟩, by simp only [Int.toNat_natCast]; omega⟩
    by_cases e : j = i
    ·subst e; omega
    ·exact he j (by omega)
 ·have hi2 : i = 16 := by simp at hge; omega
  subst hi2
  have e : cfA f g = 0 := by
   have : auB f = auB g := by unfold auB auI; rw [List.map_congr_left (fun j hj => he j (List.mem_range.1 hj))]
   unfold cfA; rw [this]; exact cb_self _
  exact ⟨by rw [e], kW.trans k1⟩
set_option maxRecDepth 100000 in
set_option maxHeartbeats 1000000 in
theorem xr11_any (f g : Nat -> Int) (hf : BY f) (hg : BY g) (w : World) : Calls Tryz.prog 79 #[.agg (arrI .u8 f 32 0).toArray, .agg (arrI .u8 g 32 0).toArray] w fun e w' => e = .returned (.int .i64 (Lib.compareBytes (idB f) (idB g))) /\ K0 w w' := by
 refine vc_xr11 f g w _ (fun n n1 W hW => ?_)
 have kW : K0 w W := hW.kk rfl
 have c0 := hW.cells 0 rfl
 have c1 := hW.cells 1 rfl
 have cf : ∀ {W' : World} {i : Nat}, K0 W W' -> i < 32 -> W'.cell? ⟨n, 0 + i, none⟩ = some (.int .u8 (f i)) := fun k hi => by
  rw [Nat.zero_add]
  exact cell_at (k.blk c1 (fun h => h)) (by simpa using arrI_get .u8 f 32 0 _ hi)
 have cg : ∀ {W' : World} {i : Nat}, K0 W W' -> i < 32 -> W'.cell? ⟨n1, 0 + i, none⟩ = some (.int .u8 (g i)) := fun k hi => by
  rw [Nat.zero_add]
  exact cell_at (k.blk c0 (fun h => h)) (by simpa using arrI_get .u8 g 32 0 _ hi)
 clear hW c0 c1
 refine ⟨fun vs w' => ∃ i : Nat, vs = [.int .i64 (i : Int)] /\ i <= 32 /\ (∀ j, j < i -> f j = g j) /\ K0 W w', fun vs _ => (match vs with | .int _ a :: _ => 32 - a.toNat | _ => 0), ⟨0, rfl, by omega, fun j h => by omega, .refl _ _⟩, ?_⟩
 rintro x w1 ⟨i, hv, hi, he, k1⟩
 simp only [List.cons.injEq, Value.int.injEq, true_and, and_true] at hv
 subst hv
 refine bsp_intro (fun hlt => fun W1 hW1 => ?_) (fun hge => ?_)
 ·have hlt : i < 32 := by simp at hlt; omega
  have k2 := k1.trans (hW1.kk rfl)
  rw [Int.toNat_natCast]
  refine ⟨⟨by omega, by omega⟩, f i, cf k2 hlt, ⟨by omega, by omega⟩, g i, cg k2 hlt, bsp_intro (fun h => ?_) (fun h W2 hW2 => ?_)⟩
  ·have h : f i < g i := by simpa using h
   have e : Lib.compareBytes (idB f) (idB g) = -1 := (cb_fun39 hf hg hlt he).1 h
   exact ⟨by rw [e], kW.trans k2⟩
  ·have h : ¬ f i < g i := by simpa using h
   have k3 := k2.trans (hW2.kk rfl)
   refine ⟨⟨by omega, by omega⟩, f i, cf k3 hlt, ⟨by omega, by omega⟩, g i, cg k3 hlt, bsp_intro (fun h2 => ?_) (fun h2 => ?_)⟩
   ·have h2 : g i < f i := by simpa using h2
    have e : Lib.compareBytes (idB f) (idB g) = 1 := (cb_fun39 hf hg hlt he).2 h2
    exact ⟨by rw [e], kW.trans k3⟩
   ·have h2 : ¬ g i < f i := by simpa using h2
    rw [inc64 (by omega)]
    refine ⟨⟨i + 1, rfl, by omega, fun j hj => ?_, k3⟩, by simp only [Int.toNat_natCast]; omega⟩
    by_cases e : j = i
    ·subst e; omega
    ·exact he j (by omega)
 ·have hi2 : i = 32 := by simp at hge; omega
  subst hi2
  have e : Lib.compareBytes (idB f) (idB g) = 0 := by
   have : idI f = idI g := by unfold idI; rw [List.map_congr_left (fun j hj => he j (List.mem_range.1 hj))]
   unfold idB; rw [this]; exact cb_self _
  exact ⟨by rw [e], kW.trans k1⟩
theorem lsC_drop {A B : List ByteArray} {i : Nat} {x y : ByteArray} (hx : A[i]? = some x) (hy : B[i]? = some y) : lsC (A.drop i) (B.drop i) = if Lib.compareBytes x.data.toList y.data.toList ≠ 0 then Lib.compareBytes x.data.toList y.data.toList else lsC (A.drop (i + 1)) (B.drop (i + 1)) := by
 obtain ⟨h1, e1⟩ := List.getElem?_eq_some_iff.1 hx
 obtain ⟨h2, e2⟩ := List.getElem?_eq_some_iff.1 hy
 rw [List.drop_eq_getElem_cons h1, List.drop_eq_getElem_cons h2, e1, e2]
 rfl
theorem bl_cb39 (a b : ByteArray) : Op.bytesLess a.toList b.toList = decide (Lib.compareBytes a.data.toList b.data.toList < 0) := by rw [ByteArray.toList_eq, ByteArray.toList_eq, bl_cb]
set_option maxHeartbeats 1000000 in
theorem xr12_any (s t : ByteArray) (hs : s.size <= 1000000) (ht : t.size <= 1000000) (w : World) : Calls Tryz.prog 80 #[.string s, .string t] w fun e w' => e = .returned (.int .i64 (gnC s t)) /\ K0 w w' := by
 refine vc_xr12 s t w _ ⟨(xparts_any s w hs).mono fun e w1 ⟨⟨p, c, he, h1⟩, k1⟩ => ⟨_, _, _, he, .of_k0 k1, ⟨(xparts_any t w1 ht).mono fun e w2 ⟨⟨p2, c2, he2, h2⟩, k2⟩ => ⟨_, _, _, he2, .of_k0 k2, ?_⟩⟩⟩⟩
 have hl1 := partsD_le s.size s (Nat.le_refl _)
 have hl2 := partsD_le t.size t (Nat.le_refl _)
 have h1 := h1.k0 k2
 have k02 := k1.trans k2
 unfold gnC
 generalize partsD s = A at h1 hl1 ⊢
 generalize partsD t = B at h2 hl2 ⊢
 refine ⟨fun vs w' => ∃ i : Nat, vs = [.int .i64 (i : Int)] /\ i <= A.length /\ i <= B.length /\ lsC A B = lsC (A.drop i) (B.drop i) /\ K0 w2 w', fun vs _ => (match vs with | .int _ a :: _ => A.length - a.toNat | _ => 0), ⟨0, rfl, by omega, by omega, rfl, .refl _ _⟩, ?_⟩
 rintro x w3 ⟨i, hv, hiA, hiB, hls, k3⟩
 simp only [List.cons.injEq, Value.int.injEq, true_and, and_true] at hv
 subst hv
 have k03 := k02.trans k3
 refine bsp_intro (fun hlt => ?_) (fun hge => ?_)
 ·have hlt : i < A.length /\ i < B.length := by simp at hlt; omega
  obtain ⟨x, b, o, hx, hp, hc⟩ := h1.get hlt.1
  obtain ⟨y, b2, o2, hy, hp2, hc2⟩ := h2.get hlt.2
  rw [lsC_drop hx hy] at hls
  rw [Int.toNat_natCast]
  refine nn_is hp ⟨⟨by omega, by omega⟩, x, fun W hW => ((k3.trans (hW.kk rfl)).cell' hc (fun h => h)), nn_is hp2 ⟨⟨by omega, by omega⟩, y, fun W hW => ((k3.trans (hW.kk rfl)).cell' hc2 (fun h => h)), bsp_intro (fun h W hW => ?_) (fun h => ?_)⟩⟩
  ·rw [bl_cb39] at h
   have h : Lib.compareBytes x.data.toList y.data.toList < 0 := by simpa using h
   have h3 := cb_val39 x.data.toList y.data.toList
   rw [if_pos (by omega)] at hls
   have e : lsC A B = -1 := by omega
   exact ⟨by rw [e], hW.k0 k03⟩
  ·rw [bl_cb39] at h
   have h : ¬ Lib.compareBytes x.data.toList y.data.toList < 0 := by simpa using h
   refine nn_is hp ⟨⟨by omega, by omega⟩, x, fun W hW => ((k3.trans (hW.kk rfl)).cell' hc (fun h => h)), nn_is hp2 ⟨⟨by omega, by omega⟩, y, fun W hW => ((k3.trans (hW.kk rfl)).cell' hc2 (fun h => h)), bsp_intro (fun h2 W hW => ?_) (fun h2 W hW => ?_)⟩⟩
   ·rw [bl_cb39, str_beq] at h2
    have h2 : ¬ x = y := by simp at h2; exact h2.2
    have h3 := cb_val39 x.data.toList y.data.toList
    have h4 : Lib.compareBytes x.data.toList y.data.toList ≠ 0 := fun e => h2 (ba_eq (cb_zero _ _ e))
    rw [if_pos h4] at hls
    have e : lsC A B = 1 := by omega
    exact ⟨by rw [e], hW.k0 k03⟩
   ·rw [bl_cb39, str_beq] at h2
    have h2 : x = y := by simp at h2; exact h2 (by omega)
    subst h2
    rw [if_neg (by rw [cb_self]; simp)] at hls
    rw [inc64 (by omega)]
    exact ⟨⟨i + 1, rfl, hlt.1, hlt.2, hls, k3.trans (hW.kk rfl)⟩, by simp only [Int.toNat_natCast]; omega⟩
 ·have hge : i = A.length \/ i = B.length := by simp at hge; omega
  refine bsp_intro (fun h => ?_) (fun h => bsp_intro (fun h' => ?_) (fun h' => ?_))
  ·have h : A.length < B.length := by simpa using h
   have hi : i = A.length := by omega
   subst hi
   rw [List.drop_length, List.drop_eq_getElem_cons h] at hls
   have e : lsC A B = -1 := hls
   exact ⟨by rw [e], k03⟩
  ·have h' : B.length < A.length := by simpa using h'
   have hi : i = B.length := by omega
   subst hi
   rw [List.drop_length, List.drop_eq_getElem_cons h'] at hls
   have e : lsC A B = 1 := hls
   exact ⟨by rw [e], k03⟩
  ·have h : ¬ A.length < B.length := by simpa using h
   have h' : ¬ B.length < A.length := by simpa using h'
   rw [show A.drop i = [] from List.drop_eq_nil_of_le (by omega), show B.drop i = [] from List.drop_eq_nil_of_le (by omega)] at hls
   have e : lsC A B = 0 := hls
   exact ⟨by rw [e], k03⟩
set_option maxRecDepth 100000 in
theorem xbefore_any (x y : Sb) (hx : BY x.id) (hy : BY y.id) (hg : x.g.size <= 1000000) (hg2 : y.g.size <= 1000000) (w : World) : Calls Tryz.prog 40 #[sbV x, sbV y] w fun e w' => e = .returned (.bool (decide (cfM x y < 0))) /\ K0 w w' := by
 refine vc_xbefore x.id x.mo x.g x.tx x.r x.st x.de x.rs y.id y.mo y.g y.tx y.r y.st y.de y.rs w _ (fun n n1 => bsp_intro (fun h W hW => ?_) (fun h => ⟨_, idEqF hx hy, bsp_intro (fun h2 W hW => ?_) (fun h2 W hW => ?_)⟩))
 ·have h : x.r ≠ y.r := by simpa using h
  have e : decide (cfM x y < 0) = decide (x.r < y.r) := by
   by_cases h1 : x.r < y.r
   ·have t : cfT x y = -1 := by unfold cfT; rw [if_pos h1]
    have m : cfM x y = -1 := by unfold cfM; rw [if_pos (by omega), t]
    rw [m]; simp [h1]
   ·have t : cfT x y = 1 := by unfold cfT; rw [if_neg h1, if_pos (by omega)]
    have m : cfM x y = 1 := by unfold cfM; rw [if_pos (by omega), t]
    rw [m]; simp [h1]
  exact ⟨by rw [e], hW.kk rfl⟩
 ·have h : x.r = y.r := by simpa using h
  have h2 : ¬ idI x.id = idI y.id := by simpa using h2
  have kW : K0 w W := hW.kk rfl
  have h3 : Lib.compareBytes (idB x.id) (idB y.id) ≠ 0 := fun e => h2 (idB_inj39 hx hy (cb_zero _ _ e))
  have e : cfM x y = Lib.compareBytes (idB x.id) (idB y.id) := by
   have t : cfT x y = 0 := by unfold cfT; rw [if_neg (by omega), if_neg (by omega)]
   unfold cfM
   rw [if_neg (by omega)]
   unfold cfI
   rw [if_pos h3]
  exact ⟨(xr11_any x.id y.id hx hy W).mono fun e' w1 ⟨he, k1⟩ => ⟨_, he, .of_k0 k1, by rw [e], kW.trans k1⟩⟩
 ·have h : x.r = y.r := by simpa using h
  have h2 : idI x.id = idI y.id := by simpa using h2
  have kW : K0 w W := hW.kk rfl
  have h3 : Lib.compareBytes (idB x.id) (idB y.id) = 0 := by unfold idB; rw [h2]; exact cb_self _
  have e : cfM x y = gnC x.g y.g := by
   have t : cfT x y = 0 := by unfold cfT; rw [if_neg (by omega), if_neg (by omega)]
   unfold cfM
   rw [if_neg (by omega)]
   unfold cfI
   rw [if_neg (by omega)]
  exact ⟨(xr12_any x.g y.g hg hg2 W).mono fun e' w1 ⟨he, k1⟩ => ⟨_, he, .of_k0 k1, by rw [e], kW.trans k1⟩⟩
theorem xmin_any (now : Int) (w : World) : Calls Tryz.prog 36 #[.int .i64 now] w fun e w' => e = .returned (.bool (minB now)) /\ K0 w w' :=
 vc_xmin now w _ ⟨rfl, .refl _ _⟩
def hdW (x : En) (now : Int) : Bool := x.s.st == 0 && inE x now
def hdA (x : En) (now : Int) : Nat -> Int := if hdW x now = true then x.ho else fun _ => 0
theorem xholder_any (x : En) (now : Int) (hs : 0 <= x.si /\ x.si <= 105190559) (w : World) : Calls Tryz.prog 60 #[enV x, .int .i64 now] w fun e w' => e = .returned (.tuple #[.agg (arrI .u8 (hdA x now) 16 0).toArray, .bool (hdW x now)]) /\ K0 w w' := by
 refine vc_xholder x.s.id x.s.mo x.s.g x.s.tx x.s.r x.s.st x.s.de x.s.rs x.le x.ho x.si now w _ (fun n n1 => ⟨x.le, gimp_intro fun _ W hW => cell_at (hW.cells 1 rfl) rfl, x.si, gimp_intro fun _ W hW => cell_at (hW.cells 1 rfl) rfl, x.si, gimp_intro fun _ W hW => cell_at (hW.cells 1 rfl) rfl, ?_⟩)
 rw [wr64 (x := x.si + 60) (by omega) (by omega)]
 have key : (x.s.st != 0 || !x.le || decide (now < x.si) || decide (now ≥ x.si + 60)) = !hdW x now := by
  have e1 : decide (now < x.si) = !decide (x.si <= now) := by rw [Bool.eq_iff_iff]; simp
  have e2 : decide (now ≥ x.si + 60) = !decide (now - x.si < 60) := by rw [Bool.eq_iff_iff]; simp; omega
  unfold hdW inE
  rw [e1, e2]
  have e3 : (x.s.st != 0) = !(x.s.st == 0) := rfl
  rw [e3]
  generalize (x.s.st == 0) = a
  generalize decide (x.si <= now) = b
  generalize decide (now - x.si < 60) = c
  cases a <;> cases b <;> cases c <;> cases x.le <;> rfl
 rw [key]
 unfold hdA
 cases hdW x now with
 | true => exact bsp_intro (fun h => by cases h) (fun _ W hW => ⟨rfl, hW.kk rfl⟩)
 | false => exact bsp_intro (fun _ W hW => ⟨rfl, hW.kk rfl⟩) (fun h => by cases h)
theorem xcomm_any (i : Nat -> Int) (s : ByteArray) (er : Int) (w : World) : Calls Tryz.prog 23 #[.agg (arrI .u8 i 32 0).toArray, .string s, .int .i64 er] w fun e w' => e = .returned (.agg (cmdL er i s).toArray) /\ K0 w w' := by
 refine vc_xcomm i s er w _ (fun n n1 => bsp_intro (fun h W hW => ?_) (fun h W hW => ?_))
 ·have h : er ≠ 0 := by simpa using h
  have e : cmdL er i s = apC 0 (fun _ => 0) ⟨#[]⟩ := by unfold cmdL; rw [if_neg h]
  exact ⟨by rw [e]; rfl, hW.kk rfl⟩
 ·have h : er = 0 := by simpa using h
  have e : cmdL er i s = apC 2 i s := by unfold cmdL; rw [if_pos h]
  exact ⟨by rw [e]; rfl, hW.kk rfl⟩
set_option maxRecDepth 100000 in
theorem xsame_any (l : List Sb) (p q : Option Addr) (c d : Nat) (w : World) (h1 : RowA sbC 54 w p l) (h2 : RowA sbC 54 w q l) (hl : l.length <= 1000000) (ho : ∀ x ∈ l, x.OK) :
  Calls Tryz.prog 34 #[.slice p l.length c, .slice q l.length d] w fun e w' => e = .returned (.bool true) /\ K0 w w' := by
 refine vc_xsame p l.length c q l.length d w _ (bsp_intro (fun h => by simp at h) (fun _ => ?_))
 refine ⟨fun vs w' => ∃ i : Nat, vs = [.int .i64 (i : Int)] /\ i <= l.length /\ K0 w w', fun vs _ => (match vs with | .int _ a :: _ => l.length - a.toNat | _ => 0), ⟨0, rfl, by omega, .refl _ _⟩, ?_⟩
 rintro x w1 ⟨i, hv, hi, k1⟩
 simp only [List.cons.injEq, Value.int.injEq, true_and, and_true] at hv
 subst hv
 refine bsp_intro (fun hlt => ?_) (fun hge => ⟨rfl, k1⟩)
 have hlt : i < l.length := by simp at hlt; omega
 obtain ⟨x, b, o, hx, hp, hat⟩ := h1.get hlt
 obtain ⟨y, b2, o2, hy, hp2, hat2⟩ := h2.get hlt
 rw [hx] at hy
 cases hy
 have hxo := ho x (List.mem_of_getElem? hx)
 rw [Int.toNat_natCast]
 have hE : EqP Tryz.prog 48 (sbV x) (sbV x) true := by have := sbEq hxo hxo; simpa using this
 refine nn_is hp ⟨⟨by omega, by omega⟩, x.id, x.g, x.tx, x.r, x.st, x.mo, x.de, x.rs, fun W hW => hat.k0 (k1.trans (hW.kk rfl)), nn_is hp2 ⟨⟨by omega, by omega⟩, x.id, x.g, x.tx, x.r, x.st, x.mo, x.de, x.rs, fun W hW => hat2.k0 (k1.trans (hW.kk rfl)), true, hE, bsp_intro (fun h => by cases h) (fun _ W hW => ?_)⟩⟩
 rw [inc64 (by omega)]
 exact ⟨⟨i + 1, rfl, hlt, hW.k0 k1⟩, by simp only [Int.toNat_natCast]; omega⟩
end Go.Proofs.YtfacflbmlfbeeaaGreatDoor
namespace Go.Proofs.YtfacflbmlfbeeaaGreatDoor
open Go.RowKit Go.Sort Go.Maps
structure Gx where
 g : ByteArray
 x : MX
def gxC (y : Gx) : List Value := [.string y.g, mxV y.x]
theorem gxC_length (y : Gx) : (gxC y).length = 2 := rfl
structure Mo where
 room : Int
 days : Int
 gs : List Gx
 es : List En
structure Pl where
 gp : Option Addr
 gc : Nat
 ep : Option Addr
 ec : Nat
def TyA (w : World) (p : Option Addr) : Prop := ∀ g o, p = some ⟨g, o, none⟩ -> ∃ c f, w.heap[g]? = some (.cells c 45 f)
structure MoR (w : World) (B m : Nat) (M : Mo) (P : Pl) : Prop where
 st : w.heap[m]? = some (.cells #[.int .i64 M.room, .int .i64 M.days, .slice P.gp M.gs.length P.gc, .slice P.ep M.es.length P.ec] 57 (0, 0))
 ge : B <= m
 gw : w.ownsRow B 93 2 (.slice P.gp M.gs.length P.gc) M.gs.length (M.gs.flatMap gxC)
 ew : w.ownsRow B 91 72 (.slice P.ep M.es.length P.ec) M.es.length (M.es.flatMap enC)
 ms : ∀ y ∈ M.gs, RowA auC 16 w y.x.p y.x.l /\ TyA w y.x.p
def MF (w : World) (B k : Nat) : Prop := B <= k /\ ∃ c t f, w.heap[k]? = some (.cells c t f) /\ (t = 57 \/ t = 93 \/ t = 91)
theorem Kp.mft {B : Nat} {w w1 w2 : World} (h : Kp (MF w B) w w1) (k : Kp (MF w1 B) w1 w2) : Kp (MF w B) w w2 := h.fresh k (fun i hi e => by
 refine Classical.byContradiction fun hn => ?_
 obtain ⟨hb, c, t, f, hc, ht⟩ := e
 rw [h.block i hi hn] at hc
 exact hn ⟨hb, c, t, f, hc, ht⟩)
theorem Kp.mf0 {B : Nat} {w w' : World} (h : K0 w w') : Kp (MF w B) w w' := h.mono fun _ _ e => e.elim
theorem TyA.kp {M : Nat -> Prop} {w w' : World} {p : Option Addr} (h : TyA w p) (hk : Kp M w w') (hm : ∀ k c f, w.heap[k]? = some (.cells c 45 f) -> ¬ M k) : TyA w' p := fun g o e => by
 obtain ⟨c, f, hc⟩ := h g o e
 exact ⟨c, f, hk.blk hc (hm g c f hc)⟩
theorem TyA.k0 {w w' : World} {p : Option Addr} (h : TyA w p) (hk : K0 w w') : TyA w' p := h.kp hk (fun _ _ _ _ h => h)
theorem TyA.own {w : World} {base L n c : Nat} {p : Option Addr} {xs : List Value} (h : w.ownsRow base 45 L (.slice p n c) n xs) : TyA w p := fun g o e => by
 subst e
 obtain ⟨c, hc⟩ := own_type h (k := g) rfl
 exact ⟨c, _, hc⟩
theorem TyA.none (w : World) : TyA w none := fun _ _ h => by cases h
theorem mf_no {w : World} {B k : Nat} {c : Array Value} {t : TypeId} {f : Nat × Nat} (h : w.heap[k]? = some (.cells c t f)) (ht : (t == 57 || t == 93 || t == 91) = false) : ¬ MF w B k := fun ⟨_, c', t', f', h', ht'⟩ => by
 rw [h] at h'
 cases h'
 rcases ht' with e | e | e <;> rw [e] at ht <;> exact absurd ht (by decide)
theorem mf_map {w : World} {B k cl : Nat} {es : Array MapEntry} (h : w.heap[k]? = some (.map es cl)) : ¬ MF w B k := fun ⟨_, c', t', f', h', _⟩ => by rw [h] at h'; cases h'
theorem RowA.mf {w w' : World} {B : Nat} {p : Option Addr} {l : List (Nat -> Int)} (h : RowA auC 16 w p l) (ht : TyA w p) (hk : Kp (MF w B) w w') : RowA auC 16 w' p l := fun k y hy => by
 obtain ⟨b, o, h1, h2⟩ := h k y hy
 obtain ⟨c, f, hc⟩ := ht b o h1
 exact ⟨b, o, h1, ⟨At_of _ _ fun j u hu => hk.cell' (h2.cell hu) (mf_no hc (by decide))⟩⟩
theorem TyA.mf {w w' : World} {B : Nat} {p : Option Addr} (ht : TyA w p) (hk : Kp (MF w B) w w') : TyA w' p := ht.kp hk (fun _ _ _ hc => mf_no hc (by decide))
def QSep (w : World) (q : Qu) : Prop := ∀ g x, aget q.ms g = some x -> TyA w x.p
section
variable {w w' : World} {b mb eb B m : Nat} {q : Qu} {M : Mo} {P : Pl}
theorem QSep.k0 (h : QSep w q) (hk : K0 w w') : QSep w' q := fun g x hx => (h g x hx).k0 hk
theorem Mq.not_ty (h : Mq w b mb eb q) {k : Nat} {c : Array Value} {t : TypeId} {f : Nat × Nat} (hc : w.heap[k]? = some (.cells c t f)) (ht : (t == 98) = false) : ¬ QB b mb eb k := fun e => by
 rcases e with rfl | rfl | rfl
 ·rw [h.st] at hc; cases hc; exact absurd ht (by decide)
 ·obtain ⟨es, c', hb, _⟩ := h.mm.blk; rw [hb] at hc; cases hc
 ·obtain ⟨es, c', hb, _⟩ := h.me.blk; rw [hb] at hc; cases hc
theorem QSep.qb (h : QSep w q) (hq : Mq w b mb eb q) (hk : Kp (QB b mb eb) w w') : QSep w' q := fun g x hx => (h g x hx).kp hk (fun _ _ _ hc => hq.not_ty hc (by decide))
theorem Mq.mf (h : Mq w b mb eb q) (hs : QSep w q) (hk : Kp (MF w B) w w') : Mq w' b mb eb q := by
 have nm : ¬ MF w B mb := by obtain ⟨es, c', hb, _⟩ := h.mm.blk; exact mf_map hb
 have ne : ¬ MF w B eb := by obtain ⟨es, c', hb, _⟩ := h.me.blk; exact mf_map hb
 exact ⟨hk.blk h.st (mf_no h.st (by decide)), h.mm.kp hk nm, h.me.kp hk ne, fun g x hx => (h.row g x hx).mf (hs g x hx) hk, h.ne, h.nz⟩
theorem QSep.mf (hs : QSep w q) (hk : Kp (MF w B) w w') : QSep w' q := fun g x hx => (hs g x hx).mf hk
theorem MoR.k0 (h : MoR w B m M P) (hk : K0 w w') : MoR w' B m M P :=
 ⟨hk.blk h.st (fun h => h), h.ge, owns_kp h.gw hk (fun _ _ h => h), owns_kp h.ew hk (fun _ _ h => h), fun y hy => ⟨(h.ms y hy).1.k0 hk, (h.ms y hy).2.k0 hk⟩⟩
theorem MoR.qb (h : MoR w B m M P) (hq : Mq w b mb eb q) (hk : Kp (QB b mb eb) w w') : MoR w' B m M P :=
 ⟨hk.blk h.st (hq.not_ty h.st (by decide)), h.ge, owns_kp h.gw hk (hq.not_own h.gw (by decide)), owns_kp h.ew hk (hq.not_own h.ew (by decide)), fun y hy => ⟨(h.ms y hy).1.kpU auC_u hk hq.nu, (h.ms y hy).2.kp hk (fun _ _ _ hc => hq.not_ty hc (by decide))⟩⟩
theorem MoR.mfm (h : MoR w B m M P) : MF w B m := ⟨h.ge, _, _, _, h.st, .inl rfl⟩
theorem MoR.mfg (h : MoR w B m M P) {k : Nat} (hk : (Value.slice P.gp M.gs.length P.gc).ownBlock = some k) : MF w B k := by
 obtain ⟨c, hc⟩ := own_type h.gw hk
 exact ⟨own_ge h.gw hk, _, _, _, hc, .inr (.inl rfl)⟩
theorem MoR.mfe (h : MoR w B m M P) {k : Nat} (hk : (Value.slice P.ep M.es.length P.ec).ownBlock = some k) : MF w B k := by
 obtain ⟨c, hc⟩ := own_type h.ew hk
 exact ⟨own_ge h.ew hk, _, _, _, hc, .inr (.inr rfl)⟩
theorem MoR.cR (h : MoR w B m M P) : w.cell? ⟨m, 0, none⟩ = some (.int .i64 M.room) := cell_at h.st rfl
theorem MoR.cD (h : MoR w B m M P) : w.cell? ⟨m, 0 + 1, none⟩ = some (.int .i64 M.days) := cell_at h.st rfl
theorem MoR.cG (h : MoR w B m M P) : w.cell? ⟨m, 0 + 2, none⟩ = some (.slice P.gp M.gs.length P.gc) := cell_at h.st rfl
theorem MoR.cE (h : MoR w B m M P) : w.cell? ⟨m, 0 + 3, none⟩ = some (.slice P.ep M.es.length P.ec) := cell_at h.st rfl
theorem MoR.rowG (h : MoR w B m M P) : RowA gxC 2 w P.gp M.gs := RowA.own h.gw gxC_length (by decide)
theorem MoR.rowE (h : MoR w B m M P) : RowA enC 72 w P.ep M.es := RowA.own h.ew enC_length (by decide)
end
theorem find_at39 {α : Type} {P : α -> Bool} : ∀ (l : List α) (i : Nat) (x : α), l[i]? = some x -> P x = true -> (∀ j y, j < i -> l[j]? = some y -> P y = false) -> l.find? P = some x
 | [], i, x, h, _, _ => by simp at h
 | a :: l, 0, x, h, hp, _ => by
  simp only [List.getElem?_cons_zero, Option.some.injEq] at h
  subst h
  rw [List.find?_cons, hp]
 | a :: l, i + 1, x, h, hp, hn => by
  rw [List.find?_cons, hn 0 a (by omega) rfl]
  exact find_at39 l i x (by simpa using h) hp (fun j y hj hy => hn (j + 1) y (by omega) (by simpa using hy))
theorem find_no39 {α : Type} {P : α -> Bool} {l : List α} (h : ∀ (j : Nat) (y : α), l[j]? = some y -> P y = false) : l.find? P = none := by
 rw [List.find?_eq_none]
 intro x hx
 obtain ⟨j, hj⟩ := List.getElem?_of_mem hx
 rw [h j x hj]; decide
def Mo.md (M : Mo) (g : ByteArray) : MX := ((M.gs.find? fun y => decide (y.g = g)).map (·.x)).getD mxz
theorem MoR.rowM {w : World} {B m : Nat} {M : Mo} {P : Pl} (h : MoR w B m M P) (g : ByteArray) : RowA auC 16 w (M.md g).p (M.md g).l := by
 unfold Mo.md
 cases hf : M.gs.find? fun y => decide (y.g = g) with
 | none => exact RowA.nil
 | some y => exact (h.ms y (List.mem_of_find?_eq_some hf)).1
set_option maxHeartbeats 1000000 in
theorem xmods_any {w : World} {B m : Nat} {M : Mo} {P : Pl} (h : MoR w B m M P) (hl : M.gs.length <= 1000000) (g : ByteArray) :
  Calls Tryz.prog 55 #[.pointer (some ⟨m, 0, none⟩), .string g] w fun e w' => e = .returned (mxV (M.md g)) /\ K0 w w' := by
 refine vc_xmods m g w _ ?_
 refine ⟨fun vs w' => ∃ i : Nat, vs = [.int .i64 (i : Int)] /\ i <= M.gs.length /\ (∀ j y, j < i -> M.gs[j]? = some y -> decide (y.g = g) = false) /\ K0 w w', fun vs _ => (match vs with | .int _ a :: _ => M.gs.length - a.toNat | _ => 0), ⟨0, rfl, by omega, fun j y h => by omega, .refl _ _⟩, ?_⟩
 rintro x w1 ⟨i, hv, hi, hno, k1⟩
 simp only [List.cons.injEq, Value.int.injEq, true_and, and_true] at hv
 subst hv
 have h1 := h.k0 k1
 refine ⟨_, _, _, h1.cG, bsp_intro (fun hlt => ⟨_, _, _, h1.cG, ?_⟩) (fun hge => ?_)⟩
 ·have hlt : i < M.gs.length := by simp at hlt; omega
  obtain ⟨y, b, o, hy, hp, hat⟩ := h1.rowG.get hlt
  rw [Int.toNat_natCast]
  refine nn_is hp ⟨⟨by omega, by omega⟩, y.g, hat.cell (j := 0) rfl, bsp_intro (fun hb => ?_) (fun hb => ?_)⟩
  ·rw [str_beq] at hb
   refine ⟨_, _, _, h1.cG, nn_is hp ⟨⟨by omega, by omega⟩, _, _, _, hat.cell (j := 1) rfl, ?_, k1⟩⟩
   have e : M.md g = y.x := by unfold Mo.md; rw [find_at39 _ i y hy hb hno]; rfl
   rw [e]
  ·rw [str_beq] at hb
   rw [inc64 (by omega)]
   refine ⟨⟨i + 1, rfl, hlt, fun j z hj hz => ?_, k1⟩, by simp only [Int.toNat_natCast]; omega⟩
   by_cases e : j = i
   ·subst e; rw [hy] at hz; cases hz; exact hb
   ·exact hno j z (by omega) hz
 ·have hi2 : i = M.gs.length := by simp at hge; omega
  subst hi2
  have e : M.md g = mxz := by
   unfold Mo.md
   rw [find_no39 (fun j y hy => hno j y (List.getElem?_eq_some_iff.1 hy).1 hy)]; rfl
  rw [e]
  exact ⟨rfl, k1⟩
set_option maxHeartbeats 1000000 in
theorem xis_any {w : World} {B m : Nat} {M : Mo} {P : Pl} (h : MoR w B m M P) (hl : M.gs.length <= 1000000) (g : ByteArray) (a : Nat -> Int) (ha : BY a) (hb : (∀ z ∈ (M.md g).l, BY z) /\ (M.md g).l.length <= 1000000) :
  Calls Tryz.prog 37 #[.pointer (some ⟨m, 0, none⟩), .string g, .agg (arrI .u8 a 16 0).toArray] w fun e w' => e = .returned (.bool (isMB (M.md g) a)) /\ K0 w w' := by
 refine vc_xis m g a w _ (fun n W hW => ?_)
 have kW : K0 w W := hW.kk rfl
 refine ⟨(xmods_any (h.k0 kW) hl g).mono fun e w1 ⟨he, k1⟩ => ⟨_, _, _, he, .of_k0 k1, ?_⟩⟩
 have k01 := kW.trans k1
 have hR := (h.k0 k01).rowM g
 unfold isMB
 generalize M.md g = X at hR hb ⊢
 refine ⟨fun vs w' => ∃ i : Nat, vs = [.int .i64 (i : Int)] /\ i <= X.l.length /\ (∀ j y, j < i -> X.l[j]? = some y -> auI y ≠ auI a) /\ K0 w1 w', fun vs _ => (match vs with | .int _ a :: _ => X.l.length - a.toNat | _ => 0), ⟨0, rfl, by omega, fun j y h => by omega, .refl _ _⟩, ?_⟩
 rintro x w2 ⟨i, hv, hi, hno, k2⟩ _
 simp only [List.cons.injEq, Value.int.injEq, true_and, and_true] at hv
 subst hv
 refine bsp_intro (fun hlt => ?_) (fun hge => ?_)
 ·have hlt : i < X.l.length := by simp at hlt; omega
  obtain ⟨y, b, o, hy, hp, hat⟩ := (hR.k0 k2).get hlt
  rw [Int.toNat_natCast]
  refine nn_is hp ⟨⟨by omega, by omega⟩, y, fun W2 hW2 => hat.k0 (hW2.kk rfl), _, auEq (hb.1 y (List.mem_of_getElem? hy)) ha, bsp_intro (fun hd W2 hW2 => ?_) (fun hd W2 hW2 => ?_)⟩
  ·have hd : auI y = auI a := by simpa using hd
   have e : decide (auI a ∈ X.l.map auI) = true := by
    rw [decide_eq_true_eq]
    exact List.mem_map.2 ⟨y, List.mem_of_getElem? hy, hd⟩
   exact ⟨by rw [e], k01.trans (k2.trans (hW2.kk rfl))⟩
  ·have hd : auI y ≠ auI a := by simpa using hd
   rw [inc64 (by omega)]
   refine ⟨⟨i + 1, rfl, hlt, fun j z hj hz => ?_, k2.trans (hW2.kk rfl)⟩, by simp only [Int.toNat_natCast]; omega⟩
   by_cases e : j = i
   ·subst e; rw [hy] at hz; cases hz; exact hd
   ·exact hno j z (by omega) hz
 ·have hi2 : i = X.l.length := by simp at hge; omega
  subst hi2
  have e : decide (auI a ∈ X.l.map auI) = false := by
   rw [decide_eq_false_iff_not]
   intro hm
   obtain ⟨y, hy, e⟩ := List.mem_map.1 hm
   obtain ⟨j, hj⟩ := List.getElem?_of_mem hy
   exact hno j y (List.getElem?_eq_some_iff.1 hj).1 hj e
  exact ⟨by rw [e], k01.trans k2⟩
set_option maxRecDepth 100000 in
set_option maxHeartbeats 2000000 in
theorem xfind39_any {w : World} {B m : Nat} {M : Mo} {P : Pl} (h : MoR w B m M P) (hl : M.es.length <= 1000000) (f : Nat -> Int) (hf : BY f) (hid : ∀ x ∈ M.es, BY x.s.id) (g : ByteArray) :
  Calls Tryz.prog 56 #[.pointer (some ⟨m, 0, none⟩), .agg (arrI .u8 f 32 0).toArray, .string g] w fun e w' => ((e = .returned (.int .i64 (-1)) /\ ∀ y ∈ M.es, y.s.ky ≠ (idI f, g)) \/ ∃ (i : Nat) (y : En), e = .returned (.int .i64 (i : Int)) /\ M.es[i]? = some y /\ y.s.ky = (idI f, g)) /\ K0 w w' := by
 refine vc_xfind m f g w _ (fun n W hW => ?_)
 have kW : K0 w W := hW.kk rfl
 clear hW
 refine ⟨fun vs w' => ∃ i : Nat, vs = [.int .i64 (i : Int)] /\ i <= M.es.length /\ (∀ j y, j < i -> M.es[j]? = some y -> y.s.ky ≠ (idI f, g)) /\ K0 w w', fun vs _ => (match vs with | .int _ a :: _ => M.es.length - a.toNat | _ => 0), ⟨0, rfl, by omega, fun j y h => by omega, kW⟩, ?_⟩
 rintro x w1 ⟨i, hv, hi, hno, k1⟩ _
 simp only [List.cons.injEq, Value.int.injEq, true_and, and_true] at hv
 subst hv
 have h1 := h.k0 k1
 refine ⟨_, _, _, h1.cE, bsp_intro (fun hlt => ⟨_, _, _, fun W2 hW2 => (h1.k0 (hW2.kk rfl)).cE, ?_⟩) (fun hge => ?_)⟩
 ·have hlt : i < M.es.length := by simp at hlt; omega
  obtain ⟨y, b, o, hy, hp, hat⟩ := h1.rowE.get hlt
  rw [Int.toNat_natCast]
  have hat0 : AtL w1 b (o + i * 72) (arrI .u8 y.s.id 32 0) := AtL.left (l2 := (([.string y.s.g, .string y.s.tx, .int .i64 y.s.r, .int .i64 y.s.st] : List Value) ++ (arrI .u8 y.s.mo 16 0 ++ (([.int .i64 y.s.de, .string y.s.rs, .bool y.le] : List Value) ++ (arrI .u8 y.ho 16 0 ++ ([.int .i64 y.si] : List Value)))))) hat
  have hcg : w1.cell? ⟨b, o + i * 72 + 32, none⟩ = some (.string y.s.g) := hat.cell (j := 32) rfl
  clear hat
  refine nn_is hp ⟨⟨by omega, by omega⟩, y.s.id, fun W2 hW2 => hat0.k0 (hW2.kk rfl), _, idEqF (hid y (List.mem_of_getElem? hy)) hf, _, _, _, gimp_intro fun _ W2 hW2 => (h1.k0 (hW2.kk rfl)).cE, nn_is hp ⟨gimp_intro fun _ => ⟨by omega, by omega⟩, y.s.g, gimp_intro fun _ W2 hW2 => (hW2.kk rfl : K0 w1 W2).cell' hcg (fun h => h), bsp_intro (fun hb W2 hW2 => ?_) (fun hb W2 hW2 => ?_)⟩⟩
  ·rw [str_beq] at hb
   have hb : idI y.s.id = idI f /\ y.s.g = g := by simpa using hb
   exact ⟨.inr ⟨i, y, rfl, hy, by unfold Sb.ky; rw [hb.1, hb.2]⟩, k1.trans (hW2.kk rfl)⟩
  ·rw [str_beq] at hb
   have hb : ¬ (idI y.s.id = idI f /\ y.s.g = g) := by intro ⟨h1, h2⟩; rw [h1, h2] at hb; simp at hb
   rw [inc64 (by omega)]
   refine ⟨⟨i + 1, rfl, hlt, fun j z hj hz => ?_, k1.trans (hW2.kk rfl)⟩, by simp only [Int.toNat_natCast]; omega⟩
   by_cases e : j = i
   ·subst e; rw [hy] at hz; cases hz
    unfold Sb.ky
    intro e
    simp only [Prod.mk.injEq] at e
    exact hb e
   ·exact hno j z (by omega) hz
 ·have hi2 : i = M.es.length := by simp at hge; omega
  subst hi2
  refine ⟨.inl ⟨rfl, fun y hy => ?_⟩, k1⟩
  obtain ⟨j, hj⟩ := List.getElem?_of_mem hy
  exact hno j y (List.getElem?_eq_some_iff.1 hj).1 hj
def Mo.ls (M : Mo) (g : ByteArray) (st : Int) : List Sb := (M.es.filter (lsP g st)).map (·.s)
theorem ls_snoc {es : List En} {i : Nat} {x : En} {P : En -> Bool} (h : es[i]? = some x) : ((es.take (i + 1)).filter P).map (·.s) = ((es.take i).filter P).map (·.s) ++ (if P x = true then [x.s] else []) := by
 rw [take_snoc h, List.filter_append, List.map_append, List.filter_cons, List.filter_nil]
 split <;> rfl
set_option maxRecDepth 100000 in
set_option maxHeartbeats 2000000 in
theorem xlist_any {w : World} {B m : Nat} {M : Mo} {P : Pl} (h : MoR w B m M P) (hl : M.es.length <= 1000000) (g : ByteArray) (st : Int) :
  Calls Tryz.prog 57 #[.pointer (some ⟨m, 0, none⟩), .string g, .int .i64 st] w fun e w' => (∃ (p : Option Addr) (c : Nat), e = .returned (.slice p (M.ls g st).length c) /\ w'.ownsRow w.heap.size 48 54 (.slice p (M.ls g st).length c) (M.ls g st).length ((M.ls g st).flatMap sbC)) /\ K0 w w' := by
 refine vc_xlist m g st w _ ?_
 refine ⟨fun vs w' => ∃ (i : Nat) (p : Option Addr) (c : Nat) (out : List Sb), vs = [.int .i64 (i : Int), .slice p out.length c] /\ i <= M.es.length /\ out.length <= i /\ out = ((M.es.take i).filter (lsP g st)).map (·.s) /\ w'.ownsRow w.heap.size 48 54 (.slice p out.length c) out.length (out.flatMap sbC) /\ K0 w w',
  fun vs _ => (match vs with | .int _ a :: _ => M.es.length - a.toNat | _ => 0), ⟨0, none, 0, [], rfl, by omega, Nat.le_refl _, rfl, World.ownsRow_nil _ _ _ _, .refl _ _⟩, ?_⟩
 rintro x p n c w1 ⟨i, p', c', out, hv, hi, hol, hout, ho, k1⟩
 simp only [List.cons.injEq, Value.int.injEq, Value.slice.injEq, true_and, and_true] at hv
 obtain ⟨rfl, rfl, rfl, rfl⟩ := hv
 have h1 := h.k0 k1
 refine ⟨_, _, _, h1.cE, bsp_intro (fun hlt => ?_) (fun hge => ?_)⟩
 ·have hlt : i < M.es.length := by simp at hlt; omega
  obtain ⟨y, b, o, hy, hp, hat⟩ := h1.rowE.get hlt
  have hsn := ls_snoc (P := lsP g st) hy
  rw [<- hout] at hsn
  rw [Int.toNat_natCast]
  have hcg : w1.cell? ⟨b, o + i * 72 + 32, none⟩ = some (.string y.s.g) := hat.cell (j := 32) rfl
  have hcs : w1.cell? ⟨b, o + i * 72 + 35, none⟩ = some (.int .i64 y.s.st) := hat.cell (j := 35) rfl
  have hats : AtL w1 b (o + i * 72) (sbC y.s) := by
   have e : enC y = sbC y.s ++ (([.bool y.le] : List Value) ++ (arrI .u8 y.ho 16 0 ++ ([.int .i64 y.si] : List Value))) := by
    unfold enC sbC
    simp only [List.append_assoc, List.cons_append, List.nil_append]
   rw [e] at hat
   exact hat.left
  clear hat
  refine ⟨_, _, _, gimp_intro fun _ => h1.cE, nn_is hp ⟨gimp_intro fun _ => ⟨by omega, by omega⟩, y.s.g, gimp_intro fun _ => hcg, _, _, _, gimp_intro fun _ => h1.cE, nn_is hp ⟨gimp_intro fun _ => ⟨by omega, by omega⟩, y.s.st, gimp_intro fun _ => hcs, ?_⟩⟩⟩
  have ec : ((g.toList == [] || y.s.g.toList == g.toList) && y.s.st == st) = lsP g st y := by unfold lsP; rw [str_nil, str_beq]
  rw [ec]
  refine bsp_intro (fun hb => ⟨_, _, _, h1.cE, nn_is hp ⟨⟨by omega, by omega⟩, y.s.id, y.s.g, y.s.tx, y.s.r, y.s.st, y.s.mo, y.s.de, y.s.rs, hats, fun n5 W hW => ?_⟩⟩) (fun hb => ?_)
  ·rw [if_pos hb] at hsn
   have kW : K0 w1 W := hW.kk rfl
   have e1 : out.length + 1 = (out ++ [y.s]).length := by simp
   have e2 : (out ++ [y.s]).flatMap sbC = out.flatMap sbC ++ sbC y.s := by rw [List.flatMap_append]; simp [List.flatMap_cons]
   refine ⟨w.heap.size, _, owns_kp ho kW (fun _ _ h => h), by omega, by omega, Nat.le_trans k1.size kW.size, fun p' c' w2 ho2 hg2 _ => ?_⟩
   have k2 : K0 w w2 := (k1.trans kW).fresh (kp_grown hg2) (fun j hj e => by have := own_ge ho e; omega)
   rw [inc64 (by omega)]
   refine ⟨.of_kp (kp_grown hg2) (fun z hz => by cases hz), ⟨i + 1, p', c', out ++ [y.s], by rw [e1], hlt, by rw [<- e1]; omega, hsn.symm, by rw [<- e1, e2]; exact ho2, k2⟩, by simp only [Int.toNat_natCast]; omega⟩
  ·rw [if_neg (by rw [hb]; decide), List.append_nil] at hsn
   rw [inc64 (by omega)]
   exact ⟨⟨i + 1, p, c, out, rfl, hlt, by omega, hsn.symm, ho, k1⟩, by simp only [Int.toNat_natCast]; omega⟩
 ·have hi2 : i = M.es.length := by simp at hge; omega
  subst hi2
  rw [List.take_length] at hout
  have e : out = M.ls g st := hout
  rw [e] at ho
  exact ⟨⟨p, c, by rw [e], ho⟩, k1⟩
end Go.Proofs.YtfacflbmlfbeeaaGreatDoor
namespace Go.Proofs.YtfacflbmlfbeeaaGreatDoor
open Go.RowKit Go.Maps
theorem own_part {α : Type} {f : α -> List Value} {L : Nat} {w w1 : World} {base n c g k j : Nat} {e : TypeId} {l : List α} {y y' : α} {vs : List Value} (h : w.ownsRow base e L (.slice (some ⟨g, 0, none⟩) n c) n (l.flatMap f)) (hn : n = l.length) (hl : ∀ y, (f y).length = L) (h0 : 0 < L) (hk : l[k]? = some y) (hj : j + vs.length <= L) (hy : f y' = putL (f y) j vs) (hp : PutB w g (0 + k * L + j) vs w1) :
  w1.ownsRow base e L (.slice (some ⟨g, 0, none⟩) n c) n ((l.set k y').flatMap f) := by
 subst hn
 have hkl : k < l.length := (List.getElem?_eq_some_iff.1 hk).1
 have hlen := h.1
 rcases h.2 with ⟨hv, _⟩ | ⟨g', cap, cur, hv, hb, hg, h4, h5, h6, h7⟩
 ·simp at hv
 simp only [Value.slice.injEq, true_and, Option.some.injEq, Addr.mk.injEq, and_true] at hv
 obtain ⟨rfl, rfl⟩ := hv
 have hm : (k + 1) * L <= l.length * L := Nat.mul_le_mul_right _ hkl
 have hm2 : l.length * L <= c * L := Nat.mul_le_mul_right _ h4
 rw [Nat.succ_mul] at hm
 have hfl : ((l.set k y').flatMap f).length = l.length * L := by rw [len_flat f L _ (fun z _ => hl z), List.length_set]
 refine ⟨hfl, .inr ⟨g, c, _, rfl, hb, hp.block hg, h4, h5, by simp [putL_len, h6], ?_⟩⟩
 show (putL cur.toList (0 + k * L + j) vs).take (l.length * L) = _
 apply List.ext_getElem?
 intro t
 rw [List.getElem?_take]
 rcases Nat.lt_or_ge t (l.length * L) with ht | ht
 ·rw [if_pos ht, putL_get _ _ _ _ (by simp [h6]; omega)]
  have hdiv : t / L < l.length := Nat.div_lt_of_lt_mul (by rw [Nat.mul_comm]; exact ht)
  have hmod : t % L < L := Nat.mod_lt _ h0
  have hj2 : t / L * L + t % L = t := by rw [Nat.mul_comm]; exact Nat.div_add_mod t L
  obtain ⟨z, hz⟩ : ∃ z, l[t / L]? = some z := ⟨_, List.getElem?_eq_getElem hdiv⟩
  have h2 := flat_get f L l (t / L) z (t % L) (fun z _ => hl z) hz hmod
  rw [hj2] at h2
  have hcur : cur.toList[t]? = (f z)[t % L]? := by rw [<- h2, <- h7, List.getElem?_take, if_pos ht]
  by_cases hk1 : t / L = k
  ·subst hk1
   rw [hk] at hz
   cases hz
   have h1 := flat_get f L (l.set (t / L) y') (t / L) y' (t % L) (fun z _ => hl z) (by rw [List.getElem?_set]; simp [hkl]) hmod
   rw [hj2] at h1
   rw [h1, hy, putL_get _ _ _ _ (by rw [hl y]; exact hj), hcur]
   by_cases hin : j <= t % L /\ t % L < j + vs.length
   ·rw [if_pos hin, if_pos (by omega)]
    congr 1
    omega
   ·rw [if_neg hin, if_neg (by omega)]
  ·have hnin : ¬ (0 + k * L + j <= t /\ t < 0 + k * L + j + vs.length) := by
    intro ⟨h3, h4⟩
    apply hk1
    have h5 : k <= t / L := (Nat.le_div_iff_mul_le h0).2 (by omega)
    have h6 : t / L < k + 1 := (Nat.div_lt_iff_lt_mul h0).2 (by rw [Nat.succ_mul]; omega)
    omega
   have h1 := flat_get f L (l.set k y') (t / L) z (t % L) (fun z _ => hl z) (by rw [List.getElem?_set, if_neg (fun e => hk1 e.symm)]; exact hz) hmod
   rw [hj2] at h1
   rw [if_neg hnin, h1, hcur]
 ·rw [if_neg (by omega), List.getElem?_eq_none (by omega)]
theorem own_wrc {w : World} {base n c L k j : Nat} {p : Option Addr} {e : TypeId} {xs : List Value} (h : w.ownsRow base e L (.slice p n c) n xs) (hk : k < n) (hj : j < L) : ∃ g, p = some ⟨g, 0, none⟩ /\ (∃ u, w.cell? ⟨g, 0 + k * L + j, none⟩ = some u) /\ w.frozen? ⟨g, 0 + k * L + j, none⟩ = false := by
 rcases h.2 with ⟨_, h0⟩ | ⟨g, cap, cur, hv, hb, hg, h4, h5, h6, h7⟩
 ·omega
 simp only [Value.slice.injEq, true_and] at hv
 obtain ⟨rfl, rfl⟩ := hv
 have hm : (k + 1) * L <= n * L := Nat.mul_le_mul_right _ hk
 have hm2 : n * L <= c * L := Nat.mul_le_mul_right _ h4
 rw [Nat.succ_mul] at hm
 exact ⟨g, rfl, cell_wr hg (by omega)⟩
theorem own_wrp {w : World} {base n c L k j m : Nat} {p : Option Addr} {e : TypeId} {xs : List Value} (h : w.ownsRow base e L (.slice p n c) n xs) (hk : k < n) (hj : j + m <= L) : ∃ g, p = some ⟨g, 0, none⟩ /\ WrL w g (0 + k * L + j) m := by
 rcases h.2 with ⟨_, h0⟩ | ⟨g, cap, cur, hv, hb, hg, h4, h5, h6, h7⟩
 ·omega
 simp only [Value.slice.injEq, true_and] at hv
 obtain ⟨rfl, rfl⟩ := hv
 have hm : (k + 1) * L <= n * L := Nat.mul_le_mul_right _ hk
 have hm2 : n * L <= c * L := Nat.mul_le_mul_right _ h4
 rw [Nat.succ_mul] at hm
 exact ⟨g, rfl, WrL_block hg (by omega)⟩
theorem app_own {w0 w1 : World} {t : TypeId} {L E n c m : Nat} {p q : Option Addr} {xs news : List Value} (h0 : w1.ownsRow w0.heap.size t L (.slice p n c) n xs) (k1 : K0 w0 w1) (hm : n + m <= 2000001) (hE : (n + m) * E <= 140737488355328) (hn : news.length = m * L) (hs : SrcP w1 q news) {Q : Option Addr -> Nat -> World -> Prop}
  (hQ : ∀ p' c' w2, w2.ownsRow w0.heap.size t L (.slice p' (n + m) c') (n + m) (xs ++ news) -> K0 w0 w2 -> Kp (fun k => (Value.slice p n c).ownBlock = some k) w1 w2 -> Q p' c' w2) :
  ∃ (base : Nat) (xs news : List Value), w1.ownsRow base t L (.slice p n c) n xs /\ news.length = m * L /\ SrcP w1 q news /\ n + m <= 9223372036854775807 /\ (n + m) * E <= 140737488355328 /\ base <= w1.heap.size /\
   ∀ (p' : Option Addr) (c' : Nat) (w' : World), w'.ownsRow base t L (.slice p' (n + m) c') (n + m) (xs ++ news) -> w1.grownBy w' (Value.slice p n c).ownBlock -> AppL w1 p n c m p' c' -> Q p' c' w' :=
 ⟨_, _, _, h0, hn, hs, by omega, hE, k1.size, fun p' c' w' ho hg _ => hQ p' c' w' ho (k1.fresh (kp_grown hg) (fun j hj e => by have := own_ge h0 e; omega)) (kp_grown hg)⟩
theorem own_n39 {n k : Nat} (h : (Value.slice (some (Addr.mk n 0 none)) 0 0).ownBlock = some k) : k = n := by simp [Value.ownBlock] at h; exact h.symm
def insL {α : Type} (l : List α) (a : Nat) (x : α) : List α := l.take a ++ x :: l.drop a
theorem insL_len {α : Type} {l : List α} {a : Nat} {x : α} (h : a <= l.length) : (insL l a x).length = 0 + a + 1 + (l.length - a) := by unfold insL; simp; omega
theorem insL_flat {α : Type} (f : α -> List Value) (L : Nat) (l : List α) (a : Nat) (x : α) (hl : ∀ y, (f y).length = L) : ((l.flatMap f).take (a * L) ++ f x) ++ (l.flatMap f).drop (a * L) = (insL l a x).flatMap f := by
 rw [take_flat f L l a (fun y _ => hl y), drop_flat f L l a (fun y _ => hl y)]
 unfold insL
 simp [List.flatMap_append, List.flatMap_cons]
theorem insL_perm {α : Type} (l : List α) (a : Nat) (x : α) : (insL l a x).Perm (x :: l) := by
 unfold insL
 have := (List.perm_middle (a := x) (l₁ := l.take a) (l₂ := l.drop a))
 rwa [List.take_append_drop] at this
end Go.Proofs.YtfacflbmlfbeeaaGreatDoor
namespace Go.Proofs.YtfacflbmlfbeeaaGreatDoor
set_option maxRecDepth 100000
set_option linter.unusedVariables false
def VC_xset (m : Nat) (s : ByteArray) (p : Option Addr) (n : Nat) (c : Nat) (w : World) (R : Ending -> World -> Prop) : Prop := CallsS Tryz.prog 53 #[.string s] w fun (e : Ending) (w' : World) => ∃ (x : Int), e = .returned (.int .i64 x) /\ KeptL [] w w' /\ bsp (x != 0) (R (.returned (.int .i64 x)) w') (bsp (decide ((↑n : Int) > 8)) (R (.returned (.int .i64 9)) w') (∃ (I : List Value -> World -> Prop) (m_1 : List Value -> World -> Nat), I [Value.int .i64 0, .slice none 0 0] w' /\ ∀ (x : Int) (p_1 : Option Addr) (n_1 c : Nat) (w' : World), I [Value.int .i64 x, .slice p_1 n_1 c] w' -> bsp (decide (x < (↑n : Int))) (∃ (I_1 : List Value -> World -> Prop) (m : List Value -> World -> Nat), I_1 [Value.int .i64 0] w' /\ ∀ (x_1 : Int) (w'_1 : World), I_1 [Value.int .i64 x_1] w'_1 -> nn (decide (x_1 < (↑n_1 : Int))) p_1 fun (b o : Nat) =>
 gimp (decide (x_1 < (↑n_1 : Int))) (0 <= x_1 /\ x_1 < (↑n_1 : Int)) /\ ∃ (f : Nat -> Int), gimp (decide (x_1 < (↑n_1 : Int))) (∀ (W : World), Loc w.heap.size [] w'_1 W -> AtL W b (o + x_1.toNat * 16) (arrI .u8 f 16 0)) /\ nn (decide (x_1 < (↑n_1 : Int))) p fun (b o : Nat) => gimp (decide (x_1 < (↑n_1 : Int))) (0 <= x /\ x < (↑n : Int)) /\ ∃ (f_1 : Nat -> Int), gimp (decide (x_1 < (↑n_1 : Int))) (∀ (W : World), Loc w.heap.size [] w'_1 W -> AtL W b (o + x.toNat * 16) (arrI .u8 f_1 16 0)) /\ ∀ (W : World), Loc w.heap.size [] w'_1 W -> bsp (decide (x_1 < (↑n_1 : Int))) (CallsS Tryz.prog 54 #[.agg (arrI .u8 f 16 0).toArray, .agg (arrI .u8 f_1 16 0).toArray] W fun (e : Ending) (w'_2 : World) => ∃ (x_2 : Int), e = .returned (.int .i64 x_2) /\ KeptL [] W w'_2 /\ bsp (true && decide (x_2 < 0)) (I_1 [Value.int .i64 (IntKind.i64.wrap (x_1 + 1))] w'_2 /\
 m [Value.int .i64 (IntKind.i64.wrap (x_1 + 1))] w'_2 < m [Value.int .i64 x_1] w'_1) (nn (decide (x_1 < (↑n_1 : Int))) p_1 fun (b o : Nat) => gimp (decide (x_1 < (↑n_1 : Int))) (0 <= x_1 /\ x_1 < (↑n_1 : Int)) /\ ∃ (f : Nat -> Int), gimp (decide (x_1 < (↑n_1 : Int))) (∀ (W : World), Loc w.heap.size [] w'_2 W -> AtL W b (o + x_1.toNat * 16) (arrI .u8 f 16 0)) /\ nn (decide (x_1 < (↑n_1 : Int))) p fun (b o : Nat) => gimp (decide (x_1 < (↑n_1 : Int))) (0 <= x /\ x < (↑n : Int)) /\ ∃ (f_2 : Nat -> Int), gimp (decide (x_1 < (↑n_1 : Int))) (∀ (W : World), Loc w.heap.size [] w'_2 W -> AtL W b (o + x.toNat * 16) (arrI .u8 f_2 16 0)) /\ ∃ (r : Bool), gimp (decide (x_1 < (↑n_1 : Int))) (EqP Tryz.prog 45 (.agg (arrI .u8 f 16 0).toArray) (.agg (arrI .u8 f_2 16 0).toArray) r) /\ bsp (decide (x_1 < (↑n_1 : Int)) && r) (∀ (W : World), Loc w.heap.size [] w'_2 W -> R (.returned (.int .i64 7)) W)
 (∀ (W : World), Loc w.heap.size [] w'_2 W -> ∃ (S : World -> Prop), S W /\ (0 <= x_1 /\ x_1 <= (↑c : Int)) /\ nn true p fun (b o : Nat) => (0 <= x /\ x < (↑n : Int)) /\ ∃ (f : Nat -> Int), (∀ (w' : World), S w' -> AtL w' b (o + x.toNat * 16) (arrI .u8 f 16 0)) /\ (0 <= x_1 /\ x_1 <= (↑n_1 : Int)) /\ (∀ (n : Nat) (w1 : World), NewB W (Obj.cells #[] 45) n w1 -> S w1 /\ (∃ (base : Nat) (xs : List Value) (news : List Value), w1.ownsRow base 45 16 (.slice (some (Addr.mk n 0 none)) 0 0) 0 xs /\ news.length = x_1.toNat * 16 /\ SrcP w1 p_1 news /\ 0 + x_1.toNat <= 9223372036854775807 /\ (0 + x_1.toNat) * 16 <= 140737488355328 /\ base <= w1.heap.size /\ ∀ (p' : Option Addr) (c' : Nat) (w'_3 : World), w'_3.ownsRow base 45 16 (.slice p' (0 + x_1.toNat) c') (0 + x_1.toNat) (xs ++ news) -> w1.grownBy w'_3 (Value.slice (some (Addr.mk n 0 none)) 0 0).ownBlock ->
 AppL w1 (some (Addr.mk n 0 none)) 0 0 x_1.toNat p' c' -> S w'_3 /\ ∀ (n : Nat) (w1 : World), NewB w'_3 (Obj.cells (arrI .u8 f 16 0).toArray 45) n w1 -> ∃ (base : Nat) (xs : List Value) (news : List Value), w1.ownsRow base 45 16 (.slice p' (0 + x_1.toNat) c') (0 + x_1.toNat) xs /\ news.length = 16 /\ SrcP w1 (some (Addr.mk n 0 none)) news /\ 0 + x_1.toNat + 1 <= 9223372036854775807 /\ (0 + x_1.toNat + 1) * 16 <= 140737488355328 /\ base <= w1.heap.size /\ ∀ (p'_1 : Option Addr) (c'_1 : Nat) (w'_4 : World), w'_4.ownsRow base 45 16 (.slice p'_1 (0 + x_1.toNat + 1) c'_1) (0 + x_1.toNat + 1) (xs ++ news) -> w1.grownBy w'_4 (Value.slice p' (0 + x_1.toNat) c').ownBlock -> AppL w1 p' (0 + x_1.toNat) c' 1 p'_1 c'_1 -> ∃ (base : Nat) (xs : List Value) (news : List Value), w'_4.ownsRow base 45 16 (.slice p'_1 (0 + x_1.toNat + 1) c'_1) (0 + x_1.toNat + 1) xs /\ news.length =
 (n_1 - x_1.toNat) * 16 /\ SrcP w'_4 (slA p_1 c x_1.toNat 16) news /\ 0 + x_1.toNat + 1 + (n_1 - x_1.toNat) <= 9223372036854775807 /\ (0 + x_1.toNat + 1 + (n_1 - x_1.toNat)) * 16 <= 140737488355328 /\ base <= w'_4.heap.size /\ ∀ (p' : Option Addr) (c' : Nat) (w'_5 : World), w'_5.ownsRow base 45 16 (.slice p' (0 + x_1.toNat + 1 + (n_1 - x_1.toNat)) c') (0 + x_1.toNat + 1 + (n_1 - x_1.toNat)) (xs ++ news) -> w'_4.grownBy w'_5 (Value.slice p'_1 (0 + x_1.toNat + 1) c'_1).ownBlock -> AppL w'_4 p'_1 (0 + x_1.toNat + 1) c'_1 (n_1 - x_1.toNat) p' c' -> KeptL [] W w'_5 /\ I [Value.int .i64 (IntKind.i64.wrap (x + 1)), .slice p' (0 + x_1.toNat + 1 + (n_1 - x_1.toNat)) c'] w'_5 /\ m_1 [Value.int .i64 (IntKind.i64.wrap (x + 1)), .slice p' (0 + x_1.toNat + 1 + (n_1 - x_1.toNat)) c'] w'_5 < m_1 [Value.int .i64 x, .slice p_1 n_1 c] w') /\ ∀ (n_2 : Nat) (w1_1 : World), NewB w1 (Obj.cells
 (arrI .u8 f 16 0).toArray 45) n_2 w1_1 -> ∃ (base : Nat) (xs : List Value) (news : List Value), w1_1.ownsRow base 45 16 (.slice (some (Addr.mk n 0 none)) 0 0) 0 xs /\ news.length = x_1.toNat * 16 /\ SrcP w1_1 p_1 news /\ 0 + x_1.toNat <= 9223372036854775807 /\ (0 + x_1.toNat) * 16 <= 140737488355328 /\ base <= w1_1.heap.size /\ ∀ (p' : Option Addr) (c' : Nat) (w'_3 : World), w'_3.ownsRow base 45 16 (.slice p' (0 + x_1.toNat) c') (0 + x_1.toNat) (xs ++ news) -> w1_1.grownBy w'_3 (Value.slice (some (Addr.mk n 0 none)) 0 0).ownBlock -> AppL w1_1 (some (Addr.mk n 0 none)) 0 0 x_1.toNat p' c' -> S w'_3 /\ ∃ (base : Nat) (xs : List Value) (news : List Value), w'_3.ownsRow base 45 16 (.slice p' (0 + x_1.toNat) c') (0 + x_1.toNat) xs /\ news.length = 16 /\ SrcP w'_3 (some (Addr.mk n_2 0 none)) news /\ 0 + x_1.toNat + 1 <= 9223372036854775807 /\ (0 + x_1.toNat + 1) * 16 <=
 140737488355328 /\ base <= w'_3.heap.size /\ ∀ (p'_1 : Option Addr) (c'_1 : Nat) (w'_4 : World), w'_4.ownsRow base 45 16 (.slice p'_1 (0 + x_1.toNat + 1) c'_1) (0 + x_1.toNat + 1) (xs ++ news) -> w'_3.grownBy w'_4 (Value.slice p' (0 + x_1.toNat) c').ownBlock -> AppL w'_3 p' (0 + x_1.toNat) c' 1 p'_1 c'_1 -> ∃ (base : Nat) (xs : List Value) (news : List Value), w'_4.ownsRow base 45 16 (.slice p'_1 (0 + x_1.toNat + 1) c'_1) (0 + x_1.toNat + 1) xs /\ news.length = (n_1 - x_1.toNat) * 16 /\ SrcP w'_4 (slA p_1 c x_1.toNat 16) news /\ 0 + x_1.toNat + 1 + (n_1 - x_1.toNat) <= 9223372036854775807 /\ (0 + x_1.toNat + 1 + (n_1 - x_1.toNat)) * 16 <= 140737488355328 /\ base <= w'_4.heap.size /\ ∀ (p' : Option Addr) (c' : Nat) (w'_5 : World), w'_5.ownsRow base 45 16 (.slice p' (0 + x_1.toNat + 1 + (n_1 - x_1.toNat)) c') (0 + x_1.toNat + 1 + (n_1 - x_1.toNat)) (xs ++ news) -> w'_4.grownBy w'_5
 (Value.slice p'_1 (0 + x_1.toNat + 1) c'_1).ownBlock -> AppL w'_4 p'_1 (0 + x_1.toNat + 1) c'_1 (n_1 - x_1.toNat) p' c' -> KeptL [] W w'_5 /\ I [Value.int .i64 (IntKind.i64.wrap (x + 1)), .slice p' (0 + x_1.toNat + 1 + (n_1 - x_1.toNat)) c'] w'_5 /\ m_1 [Value.int .i64 (IntKind.i64.wrap (x + 1)), .slice p' (0 + x_1.toNat + 1 + (n_1 - x_1.toNat)) c'] w'_5 < m_1 [Value.int .i64 x, .slice p_1 n_1 c] w') /\ ∀ (n : Nat) (w1 : World), NewB W (Obj.cells (arrI .u8 f 16 0).toArray 45) n w1 -> ∀ (n_2 : Nat) (w1_1 : World), NewB w1 (Obj.cells #[] 45) n_2 w1_1 -> S w1_1 /\ ∃ (base : Nat) (xs : List Value) (news : List Value), w1_1.ownsRow base 45 16 (.slice (some (Addr.mk n_2 0 none)) 0 0) 0 xs /\ news.length = x_1.toNat * 16 /\ SrcP w1_1 p_1 news /\ 0 + x_1.toNat <= 9223372036854775807 /\ (0 + x_1.toNat) * 16 <= 140737488355328 /\ base <= w1_1.heap.size /\
 ∀ (p' : Option Addr) (c' : Nat) (w'_3 : World), w'_3.ownsRow base 45 16 (.slice p' (0 + x_1.toNat) c') (0 + x_1.toNat) (xs ++ news) -> w1_1.grownBy w'_3 (Value.slice (some (Addr.mk n_2 0 none)) 0 0).ownBlock -> AppL w1_1 (some (Addr.mk n_2 0 none)) 0 0 x_1.toNat p' c' -> S w'_3 /\ ∃ (base : Nat) (xs : List Value) (news : List Value), w'_3.ownsRow base 45 16 (.slice p' (0 + x_1.toNat) c') (0 + x_1.toNat) xs /\ news.length = 16 /\ SrcP w'_3 (some (Addr.mk n 0 none)) news /\ 0 + x_1.toNat + 1 <= 9223372036854775807 /\ (0 + x_1.toNat + 1) * 16 <= 140737488355328 /\ base <= w'_3.heap.size /\ ∀ (p'_1 : Option Addr) (c'_1 : Nat) (w'_4 : World), w'_4.ownsRow base 45 16 (.slice p'_1 (0 + x_1.toNat + 1) c'_1) (0 + x_1.toNat + 1) (xs ++ news) -> w'_3.grownBy w'_4 (Value.slice p' (0 + x_1.toNat) c').ownBlock -> AppL w'_3 p' (0 + x_1.toNat) c' 1 p'_1 c'_1 -> ∃ (base : Nat),
 ∃ (xs : List Value) (news : List Value), w'_4.ownsRow base 45 16 (.slice p'_1 (0 + x_1.toNat + 1) c'_1) (0 + x_1.toNat + 1) xs /\ news.length = (n_1 - x_1.toNat) * 16 /\ SrcP w'_4 (slA p_1 c x_1.toNat 16) news /\ 0 + x_1.toNat + 1 + (n_1 - x_1.toNat) <= 9223372036854775807 /\ (0 + x_1.toNat + 1 + (n_1 - x_1.toNat)) * 16 <= 140737488355328 /\ base <= w'_4.heap.size /\ ∀ (p' : Option Addr) (c' : Nat) (w'_5 : World), w'_5.ownsRow base 45 16 (.slice p' (0 + x_1.toNat + 1 + (n_1 - x_1.toNat)) c') (0 + x_1.toNat + 1 + (n_1 - x_1.toNat)) (xs ++ news) -> w'_4.grownBy w'_5 (Value.slice p'_1 (0 + x_1.toNat + 1) c'_1).ownBlock -> AppL w'_4 p'_1 (0 + x_1.toNat + 1) c'_1 (n_1 - x_1.toNat) p' c' -> KeptL [] W w'_5 /\ I [Value.int .i64 (IntKind.i64.wrap (x + 1)), .slice p' (0 + x_1.toNat + 1 + (n_1 - x_1.toNat)) c'] w'_5 /\ m_1 [Value.int .i64 (IntKind.i64.wrap (x + 1)), .slice p' (0 + x_1.toNat +
 1 + (n_1 - x_1.toNat)) c'] w'_5 < m_1 [Value.int .i64 x, .slice p_1 n_1 c] w'))) (KeptL [] W W /\ nn (decide (x_1 < (↑n_1 : Int))) p_1 fun (b o : Nat) => gimp (decide (x_1 < (↑n_1 : Int))) (0 <= x_1 /\ x_1 < (↑n_1 : Int)) /\ ∃ (f : Nat -> Int), gimp (decide (x_1 < (↑n_1 : Int))) (∀ (W_1 : World), Loc w.heap.size [] W W_1 -> AtL W_1 b (o + x_1.toNat * 16) (arrI .u8 f 16 0)) /\ nn (decide (x_1 < (↑n_1 : Int))) p fun (b o : Nat) => gimp (decide (x_1 < (↑n_1 : Int))) (0 <= x /\ x < (↑n : Int)) /\ ∃ (f_2 : Nat -> Int), gimp (decide (x_1 < (↑n_1 : Int))) (∀ (W_1 : World), Loc w.heap.size [] W W_1 -> AtL W_1 b (o + x.toNat * 16) (arrI .u8 f_2 16 0)) /\ ∃ (r : Bool), gimp (decide (x_1 < (↑n_1 : Int))) (EqP Tryz.prog 45 (.agg (arrI .u8 f 16 0).toArray) (.agg (arrI .u8 f_2 16 0).toArray) r) /\ bsp (decide (x_1 < (↑n_1 : Int)) && r) (∀ (W_1 : World),
 Loc w.heap.size [] W W_1 -> R (.returned (.int .i64 7)) W_1) (∀ (W_1 : World), Loc w.heap.size [] W W_1 -> ∃ (S : World -> Prop), S W_1 /\ (0 <= x_1 /\ x_1 <= (↑c : Int)) /\ nn true p fun (b o : Nat) => (0 <= x /\ x < (↑n : Int)) /\ ∃ (f : Nat -> Int), (∀ (w' : World), S w' -> AtL w' b (o + x.toNat * 16) (arrI .u8 f 16 0)) /\ (0 <= x_1 /\ x_1 <= (↑n_1 : Int)) /\ (∀ (n : Nat) (w1 : World), NewB W_1 (Obj.cells #[] 45) n w1 -> S w1 /\ (∃ (base : Nat) (xs : List Value) (news : List Value), w1.ownsRow base 45 16 (.slice (some (Addr.mk n 0 none)) 0 0) 0 xs /\ news.length = x_1.toNat * 16 /\ SrcP w1 p_1 news /\ 0 + x_1.toNat <= 9223372036854775807 /\ (0 + x_1.toNat) * 16 <= 140737488355328 /\ base <= w1.heap.size /\ ∀ (p' : Option Addr) (c' : Nat) (w'_2 : World), w'_2.ownsRow base 45 16 (.slice p' (0 + x_1.toNat) c') (0 + x_1.toNat) (xs ++ news) -> w1.grownBy w'_2
 (Value.slice (some (Addr.mk n 0 none)) 0 0).ownBlock -> AppL w1 (some (Addr.mk n 0 none)) 0 0 x_1.toNat p' c' -> S w'_2 /\ ∀ (n : Nat) (w1 : World), NewB w'_2 (Obj.cells (arrI .u8 f 16 0).toArray 45) n w1 -> ∃ (base : Nat) (xs : List Value) (news : List Value), w1.ownsRow base 45 16 (.slice p' (0 + x_1.toNat) c') (0 + x_1.toNat) xs /\ news.length = 16 /\ SrcP w1 (some (Addr.mk n 0 none)) news /\ 0 + x_1.toNat + 1 <= 9223372036854775807 /\ (0 + x_1.toNat + 1) * 16 <= 140737488355328 /\ base <= w1.heap.size /\ ∀ (p'_1 : Option Addr) (c'_1 : Nat) (w'_3 : World), w'_3.ownsRow base 45 16 (.slice p'_1 (0 + x_1.toNat + 1) c'_1) (0 + x_1.toNat + 1) (xs ++ news) -> w1.grownBy w'_3 (Value.slice p' (0 + x_1.toNat) c').ownBlock -> AppL w1 p' (0 + x_1.toNat) c' 1 p'_1 c'_1 -> ∃ (base : Nat) (xs : List Value) (news : List Value), w'_3.ownsRow base 45 16 (.slice p'_1
 (0 + x_1.toNat + 1) c'_1) (0 + x_1.toNat + 1) xs /\ news.length = (n_1 - x_1.toNat) * 16 /\ SrcP w'_3 (slA p_1 c x_1.toNat 16) news /\ 0 + x_1.toNat + 1 + (n_1 - x_1.toNat) <= 9223372036854775807 /\ (0 + x_1.toNat + 1 + (n_1 - x_1.toNat)) * 16 <= 140737488355328 /\ base <= w'_3.heap.size /\ ∀ (p' : Option Addr) (c' : Nat) (w'_4 : World), w'_4.ownsRow base 45 16 (.slice p' (0 + x_1.toNat + 1 + (n_1 - x_1.toNat)) c') (0 + x_1.toNat + 1 + (n_1 - x_1.toNat)) (xs ++ news) -> w'_3.grownBy w'_4 (Value.slice p'_1 (0 + x_1.toNat + 1) c'_1).ownBlock -> AppL w'_3 p'_1 (0 + x_1.toNat + 1) c'_1 (n_1 - x_1.toNat) p' c' -> KeptL [] W_1 w'_4 /\ I [Value.int .i64 (IntKind.i64.wrap (x + 1)), .slice p' (0 + x_1.toNat + 1 + (n_1 - x_1.toNat)) c'] w'_4 /\ m_1 [Value.int .i64 (IntKind.i64.wrap (x + 1)), .slice p' (0 + x_1.toNat + 1 + (n_1 - x_1.toNat)) c'] w'_4 < m_1 [Value.int .i64 x, .slice p_1 n_1 c]
 w') /\ ∀ (n_2 : Nat) (w1_1 : World), NewB w1 (Obj.cells (arrI .u8 f 16 0).toArray 45) n_2 w1_1 -> ∃ (base : Nat) (xs : List Value) (news : List Value), w1_1.ownsRow base 45 16 (.slice (some (Addr.mk n 0 none)) 0 0) 0 xs /\ news.length = x_1.toNat * 16 /\ SrcP w1_1 p_1 news /\ 0 + x_1.toNat <= 9223372036854775807 /\ (0 + x_1.toNat) * 16 <= 140737488355328 /\ base <= w1_1.heap.size /\ ∀ (p' : Option Addr) (c' : Nat) (w'_2 : World), w'_2.ownsRow base 45 16 (.slice p' (0 + x_1.toNat) c') (0 + x_1.toNat) (xs ++ news) -> w1_1.grownBy w'_2 (Value.slice (some (Addr.mk n 0 none)) 0 0).ownBlock -> AppL w1_1 (some (Addr.mk n 0 none)) 0 0 x_1.toNat p' c' -> S w'_2 /\ ∃ (base : Nat) (xs : List Value) (news : List Value), w'_2.ownsRow base 45 16 (.slice p' (0 + x_1.toNat) c') (0 + x_1.toNat) xs /\ news.length = 16 /\ SrcP w'_2 (some (Addr.mk n_2 0 none)) news /\
 0 + x_1.toNat + 1 <= 9223372036854775807 /\ (0 + x_1.toNat + 1) * 16 <= 140737488355328 /\ base <= w'_2.heap.size /\ ∀ (p'_1 : Option Addr) (c'_1 : Nat) (w'_3 : World), w'_3.ownsRow base 45 16 (.slice p'_1 (0 + x_1.toNat + 1) c'_1) (0 + x_1.toNat + 1) (xs ++ news) -> w'_2.grownBy w'_3 (Value.slice p' (0 + x_1.toNat) c').ownBlock -> AppL w'_2 p' (0 + x_1.toNat) c' 1 p'_1 c'_1 -> ∃ (base : Nat) (xs : List Value) (news : List Value), w'_3.ownsRow base 45 16 (.slice p'_1 (0 + x_1.toNat + 1) c'_1) (0 + x_1.toNat + 1) xs /\ news.length = (n_1 - x_1.toNat) * 16 /\ SrcP w'_3 (slA p_1 c x_1.toNat 16) news /\ 0 + x_1.toNat + 1 + (n_1 - x_1.toNat) <= 9223372036854775807 /\ (0 + x_1.toNat + 1 + (n_1 - x_1.toNat)) * 16 <= 140737488355328 /\ base <= w'_3.heap.size /\ ∀ (p' : Option Addr) (c' : Nat) (w'_4 : World), w'_4.ownsRow base 45 16 (.slice p' (0 + x_1.toNat + 1 + (n_1 - x_1.toNat)) c')
 (0 + x_1.toNat + 1 + (n_1 - x_1.toNat)) (xs ++ news) -> w'_3.grownBy w'_4 (Value.slice p'_1 (0 + x_1.toNat + 1) c'_1).ownBlock -> AppL w'_3 p'_1 (0 + x_1.toNat + 1) c'_1 (n_1 - x_1.toNat) p' c' -> KeptL [] W_1 w'_4 /\ I [Value.int .i64 (IntKind.i64.wrap (x + 1)), .slice p' (0 + x_1.toNat + 1 + (n_1 - x_1.toNat)) c'] w'_4 /\ m_1 [Value.int .i64 (IntKind.i64.wrap (x + 1)), .slice p' (0 + x_1.toNat + 1 + (n_1 - x_1.toNat)) c'] w'_4 < m_1 [Value.int .i64 x, .slice p_1 n_1 c] w') /\ ∀ (n : Nat) (w1 : World), NewB W_1 (Obj.cells (arrI .u8 f 16 0).toArray 45) n w1 -> ∀ (n_2 : Nat) (w1_1 : World), NewB w1 (Obj.cells #[] 45) n_2 w1_1 -> S w1_1 /\ ∃ (base : Nat) (xs : List Value) (news : List Value), w1_1.ownsRow base 45 16 (.slice (some (Addr.mk n_2 0 none)) 0 0) 0 xs /\ news.length = x_1.toNat * 16 /\ SrcP w1_1 p_1 news /\ 0 + x_1.toNat <= 9223372036854775807 /\
 (0 + x_1.toNat) * 16 <= 140737488355328 /\ base <= w1_1.heap.size /\ ∀ (p' : Option Addr) (c' : Nat) (w'_2 : World), w'_2.ownsRow base 45 16 (.slice p' (0 + x_1.toNat) c') (0 + x_1.toNat) (xs ++ news) -> w1_1.grownBy w'_2 (Value.slice (some (Addr.mk n_2 0 none)) 0 0).ownBlock -> AppL w1_1 (some (Addr.mk n_2 0 none)) 0 0 x_1.toNat p' c' -> S w'_2 /\ ∃ (base : Nat) (xs : List Value) (news : List Value), w'_2.ownsRow base 45 16 (.slice p' (0 + x_1.toNat) c') (0 + x_1.toNat) xs /\ news.length = 16 /\ SrcP w'_2 (some (Addr.mk n 0 none)) news /\ 0 + x_1.toNat + 1 <= 9223372036854775807 /\ (0 + x_1.toNat + 1) * 16 <= 140737488355328 /\ base <= w'_2.heap.size /\ ∀ (p'_1 : Option Addr) (c'_1 : Nat) (w'_3 : World), w'_3.ownsRow base 45 16 (.slice p'_1 (0 + x_1.toNat + 1) c'_1) (0 + x_1.toNat + 1) (xs ++ news) -> w'_2.grownBy w'_3 (Value.slice p' (0 + x_1.toNat) c').ownBlock ->
 AppL w'_2 p' (0 + x_1.toNat) c' 1 p'_1 c'_1 -> ∃ (base : Nat) (xs : List Value) (news : List Value), w'_3.ownsRow base 45 16 (.slice p'_1 (0 + x_1.toNat + 1) c'_1) (0 + x_1.toNat + 1) xs /\ news.length = (n_1 - x_1.toNat) * 16 /\ SrcP w'_3 (slA p_1 c x_1.toNat 16) news /\ 0 + x_1.toNat + 1 + (n_1 - x_1.toNat) <= 9223372036854775807 /\ (0 + x_1.toNat + 1 + (n_1 - x_1.toNat)) * 16 <= 140737488355328 /\ base <= w'_3.heap.size /\ ∀ (p' : Option Addr) (c' : Nat) (w'_4 : World), w'_4.ownsRow base 45 16 (.slice p' (0 + x_1.toNat + 1 + (n_1 - x_1.toNat)) c') (0 + x_1.toNat + 1 + (n_1 - x_1.toNat)) (xs ++ news) -> w'_3.grownBy w'_4 (Value.slice p'_1 (0 + x_1.toNat + 1) c'_1).ownBlock -> AppL w'_3 p'_1 (0 + x_1.toNat + 1) c'_1 (n_1 - x_1.toNat) p' c' -> KeptL [] W_1 w'_4 /\ I [Value.int .i64 (IntKind.i64.wrap (x + 1)), .slice p' (0 + x_1.toNat + 1 + (n_1 - x_1.toNat)) c'] w'_4 /\ m_1
 [Value.int .i64 (IntKind.i64.wrap (x + 1)), .slice p' (0 + x_1.toNat + 1 + (n_1 - x_1.toNat)) c'] w'_4 < m_1 [Value.int .i64 x, .slice p_1 n_1 c] w'))) (∃ (I : List Value -> World -> Prop) (m_2 : List Value -> World -> Nat), I [Value.int .i64 0] w' /\ ∀ (x : Int) (w' : World), I [Value.int .i64 x] w' -> ∃ (p : Option Addr) (n : Nat) (c_1 : Nat), w'.cell? (Addr.mk m (0 + 2) none) = some (.slice p n c_1) /\ bsp (decide (x < (↑n : Int))) (∃ (p : Option Addr) (n : Nat) (c_2 : Nat), w'.cell? (Addr.mk m (0 + 2) none) = some (.slice p n c_2) /\ nn true p fun (b o : Nat) => (0 <= x /\ x < (↑n : Int)) /\ ∃ (x_1 : ByteArray), w'.cell? (Addr.mk b (o + x.toNat * 2) none) = some (.string x_1) /\ bsp (x_1.toList == s.toList) (∃ (p : Option Addr) (n : Nat) (c_3 : Nat), w'.cell? (Addr.mk m (0 + 2) none) = some (.slice p n c_3) /\ nn true p fun (b o : Nat) =>
 (0 <= x /\ x < (↑n : Int)) /\ ((∃ (u : Value), w'.cell? (Addr.mk b (o + x.toNat * 2 + 1) none) = some u) /\ w'.frozen? (Addr.mk b (o + x.toNat * 2 + 1) none) = false) /\ ∀ (w1 : World), PutB w' b (o + x.toNat * 2 + 1) [Value.slice p_1 n_1 c] w1 -> KeptL [] w' w1 /\ R (.returned (.int .i64 0)) w1) (I [Value.int .i64 (IntKind.i64.wrap (x + 1))] w' /\ m_2 [Value.int .i64 (IntKind.i64.wrap (x + 1))] w' < m_2 [Value.int .i64 x] w')) (∃ (p : Option Addr) (n : Nat) (c_2 : Nat), w'.cell? (Addr.mk m (0 + 2) none) = some (.slice p n c_2) /\ ∀ (n_2 : Nat) (W : World), Loc w.heap.size [Blk.mk n_2 93 [Value.string s, .slice p_1 n_1 c] 2] w' W -> ∃ (base : Nat) (xs : List Value), W.ownsRow base 93 2 (.slice p n c_2) n xs /\ n + 1 <= 9223372036854775807 /\ (n + 1) * 40 <= 140737488355328 /\ base <= W.heap.size /\ ∀ (p' : Option Addr) (c' : Nat) (w' : World),
 w'.ownsRow base 93 2 (.slice p' (n + 1) c') (n + 1) (xs ++ [Value.string s, .slice p_1 n_1 c]) -> W.grownBy w' (Value.slice p n c_2).ownBlock -> AppL W p n c_2 1 p' c' -> KeptL [] W w' /\ ((∃ (u : Value), w'.cell? (Addr.mk m (0 + 2) none) = some u) /\ w'.frozen? (Addr.mk m (0 + 2) none) = false) /\ ∀ (w1 : World), PutB w' m (0 + 2) [Value.slice p' (n + 1) c'] w1 -> KeptL [] w' w1 /\ R (.returned (.int .i64 0)) w1))))
theorem vc_xset (m : Nat) (s : ByteArray) (p : Option Addr) (n : Nat) (c : Nat) (w : World) (R : Ending -> World -> Prop) (h : VC_xset m s p n c w R) : Calls Tryz.prog 25 ([Value.pointer (some { block := m, off := 0 }), .string s, .slice p n c] : List Value).toArray w R :=
 calls_of_exec2' (loops := [(8, [(9, Ck.int .i64), (8, Ck.slice)]), (11, [(10, Ck.int .i64)]), (17, [(11, Ck.int .i64)])]) (tails := [(11, 13), (15, 0)]) (joins := []) (boxes := []) (rngs := []) (c := Tryz.f25.body.getD .skip) pur1_ok Tryz.func25 (by kernel_rfl) (by kernel_rfl) h
def VC_xsubmit (m : Nat) (i : Nat -> Int) (s : ByteArray) (t : ByteArray) (now : Int) (w : World) (R : Ending -> World -> Prop) : Prop := ∀ (n : Nat) (W : World), Loc w.heap.size [Blk.mk n 32 (arrI .u8 i 32 0) 2] w W -> CallsS Tryz.prog 36 #[.int .i64 now] W fun (e : Ending) (w' : World) => ∃ (x : Bool), e = .returned (.bool x) /\ KeptL [n] W w' /\ bsp (!x) (R (.returned (.int .i64 2)) w') (CallsS Tryz.prog 53 #[.string s] w' fun (e : Ending) (w'_1 : World) => ∃ (x : Int), e = .returned (.int .i64 x) /\ KeptL [n] w' w'_1 /\ bsp (x != 0) (R (.returned (.int .i64 x)) w'_1) (bsp (decide ((↑t.size : Int) > 65536)) (R (.returned (.int .i64 5)) w'_1) (CallsS Tryz.prog 55 #[.pointer (some (Addr.mk m 0 none)), .string s] w'_1 fun (e : Ending) (w' : World) => ∃ (p : Option Addr) (n_1 : Nat) (c : Nat), e = .returned (.slice p n_1 c) /\ KeptL [n] w'_1 w' /\
 bsp ((↑n_1 : Int) == 0) (R (.returned (.int .i64 33)) w') (CallsS Tryz.prog 56 #[.pointer (some (Addr.mk m 0 none)), .agg (arrI .u8 i 32 0).toArray, .string s] w' fun (e : Ending) (w'_2 : World) => ∃ (x : Int), e = .returned (.int .i64 x) /\ KeptL [n] w' w'_2 /\ bsp (decide (x ≥ 0)) (R (.returned (.int .i64 7)) w'_2) (∀ (W : World), Loc w.heap.size [Blk.mk n 32 (arrI .u8 i 32 0) 0] w'_2 W -> ∃ (S : World -> Prop), S W /\ ∃ (x : Int), (∀ (w' : World), S w' -> w'.cell? (Addr.mk m 0 none) = some (.int .i64 x)) /\ CallsS Tryz.prog 57 #[.pointer (some (Addr.mk m 0 none)), .string (ByteArray.mk #[]), .int .i64 0] W fun (e : Ending) (w' : World) => ∃ (p : Option Addr) (n_2 : Nat) (c : Nat), e = .returned (.slice p n_2 c) /\ S w' /\ KeptL [n] W w' /\ bsp (decide ((↑n_2 : Int) ≥ x)) (R (.returned (.int .i64 9)) w') (∀ (n_3 : Nat) (W : World), Loc w.heap.size [Blk.mk n_3 48
 (arrI .u8 i 32 0 ++ [Value.string s, .string t, .int .i64 now, .int .i64 0, .int .u8 0, .int .u8 0, .int .u8 0, .int .u8 0, .int .u8 0, .int .u8 0, .int .u8 0, .int .u8 0, .int .u8 0, .int .u8 0, .int .u8 0, .int .u8 0, .int .u8 0, .int .u8 0, .int .u8 0, .int .u8 0, .int .i64 0, .string (ByteArray.mk #[])]) (wrM 2), Blk.mk n 32 (arrI .u8 i 32 0) 0] w' W -> ∃ (I : List Value -> World -> Prop) (m_1 : List Value -> World -> Nat), I [Value.int .i64 0] W /\ ∀ (x : Int) (w' : World), I [Value.int .i64 x] w' -> Loc w.heap.size [Blk.mk n_3 48 (arrI .u8 i 32 0 ++ [Value.string s, .string t, .int .i64 now, .int .i64 0, .int .u8 0, .int .u8 0, .int .u8 0, .int .u8 0, .int .u8 0, .int .u8 0, .int .u8 0, .int .u8 0, .int .u8 0, .int .u8 0, .int .u8 0, .int .u8 0, .int .u8 0, .int .u8 0, .int .u8 0, .int .u8 0, .int .i64 0, .string (ByteArray.mk #[])]) 0, Blk.mk n 32 (arrI .u8 i 32 0) 0]
 w' w' -> ∃ (p : Option Addr) (n_4 : Nat) (c : Nat), (∀ (W : World), Loc w.heap.size [Blk.mk n_3 48 (arrI .u8 i 32 0 ++ [Value.string s, .string t, .int .i64 now, .int .i64 0, .int .u8 0, .int .u8 0, .int .u8 0, .int .u8 0, .int .u8 0, .int .u8 0, .int .u8 0, .int .u8 0, .int .u8 0, .int .u8 0, .int .u8 0, .int .u8 0, .int .u8 0, .int .u8 0, .int .u8 0, .int .u8 0, .int .i64 0, .string (ByteArray.mk #[])]) 0, Blk.mk n 32 (arrI .u8 i 32 0) 0] w' W -> W.cell? (Addr.mk m (0 + 3) none) = some (.slice p n_4 c)) /\ ∃ (p : Option Addr) (n_5 : Nat) (c : Nat), gimp (decide (x < (↑n_4 : Int))) (∀ (W : World), Loc w.heap.size [Blk.mk n_3 48 (arrI .u8 i 32 0 ++ [Value.string s, .string t, .int .i64 now, .int .i64 0, .int .u8 0, .int .u8 0, .int .u8 0, .int .u8 0, .int .u8 0, .int .u8 0, .int .u8 0, .int .u8 0, .int .u8 0, .int .u8 0, .int .u8 0, .int .u8 0, .int .u8 0,
 .int .u8 0, .int .u8 0, .int .u8 0, .int .i64 0, .string (ByteArray.mk #[])]) 0, Blk.mk n 32 (arrI .u8 i 32 0) 0] w' W -> W.cell? (Addr.mk m (0 + 3) none) = some (.slice p n_5 c)) /\ nn (decide (x < (↑n_4 : Int))) p fun (b o : Nat) => gimp (decide (x < (↑n_4 : Int))) (0 <= x /\ x < (↑n_5 : Int)) /\ ∃ (f : Nat -> Int) (x_1 : ByteArray), ∃ (x_2 : ByteArray) (x_3 : Int), ∃ (x_4 : Int) (f_1 : Nat -> Int), ∃ (x_5 : Int) (x_6 : ByteArray), gimp (decide (x < (↑n_4 : Int))) (∀ (W : World), Loc w.heap.size [Blk.mk n_3 48 (arrI .u8 i 32 0 ++ [Value.string s, .string t, .int .i64 now, .int .i64 0, .int .u8 0, .int .u8 0, .int .u8 0, .int .u8 0, .int .u8 0, .int .u8 0, .int .u8 0, .int .u8 0, .int .u8 0, .int .u8 0, .int .u8 0, .int .u8 0, .int .u8 0, .int .u8 0, .int .u8 0, .int .u8 0, .int .i64 0, .string (ByteArray.mk #[])]) 0, Blk.mk n 32 (arrI .u8 i 32 0) 0] w' W ->
 AtL W b (o + x.toNat * 72) (arrI .u8 f 32 0 ++ ([Value.string x_1, .string x_2, .int .i64 x_3, .int .i64 x_4] ++ arrI .u8 f_1 16 0 ++ [Value.int .i64 x_5, .string x_6]))) /\ ∀ (W : World), Loc w.heap.size [Blk.mk n_3 48 (arrI .u8 i 32 0 ++ [Value.string s, .string t, .int .i64 now, .int .i64 0, .int .u8 0, .int .u8 0, .int .u8 0, .int .u8 0, .int .u8 0, .int .u8 0, .int .u8 0, .int .u8 0, .int .u8 0, .int .u8 0, .int .u8 0, .int .u8 0, .int .u8 0, .int .u8 0, .int .u8 0, .int .u8 0, .int .i64 0, .string (ByteArray.mk #[])]) 0, Blk.mk n 32 (arrI .u8 i 32 0) 0] w' W -> bsp (decide (x < (↑n_4 : Int))) (CallsS Tryz.prog 40 #[.agg (arrI .u8 f 32 0 ++ ([Value.string x_1, .string x_2, .int .i64 x_3, .int .i64 x_4] ++ arrI .u8 f_1 16 0 ++ [Value.int .i64 x_5, .string x_6])).toArray, .agg (arrI .u8 i 32 0 ++ [Value.string s, .string t, .int .i64 now, .int .i64 0, .int .u8 0, .int .u8 0,
 .int .u8 0, .int .u8 0, .int .u8 0, .int .u8 0, .int .u8 0, .int .u8 0, .int .u8 0, .int .u8 0, .int .u8 0, .int .u8 0, .int .u8 0, .int .u8 0, .int .u8 0, .int .u8 0, .int .i64 0, .string (ByteArray.mk #[])]).toArray] W fun (e : Ending) (w'_3 : World) => ∃ (x_7 : Bool), e = .returned (.bool x_7) /\ KeptL [n_3, n] W w'_3 /\ bsp (true && x_7) (I [Value.int .i64 (IntKind.i64.wrap (x + 1))] w'_3 /\ m_1 [Value.int .i64 (IntKind.i64.wrap (x + 1))] w'_3 < m_1 [Value.int .i64 x] w') (∀ (W : World), Loc w.heap.size [Blk.mk n_3 48 (arrI .u8 i 32 0 ++ [Value.string s, .string t, .int .i64 now, .int .i64 0, .int .u8 0, .int .u8 0, .int .u8 0, .int .u8 0, .int .u8 0, .int .u8 0, .int .u8 0, .int .u8 0, .int .u8 0, .int .u8 0, .int .u8 0, .int .u8 0, .int .u8 0, .int .u8 0, .int .u8 0, .int .u8 0, .int .i64 0, .string (ByteArray.mk #[])]) 0, Blk.mk n 32 (arrI .u8 i 32 0) 0] w'_3 W ->
 ∃ (S : World -> Prop), S W /\ ∃ (p : Option Addr) (n_6 : Nat) (c : Nat), (∀ (w' : World), S w' -> w'.cell? (Addr.mk m (0 + 3) none) = some (.slice p n_6 c)) /\ (0 <= x /\ x <= (↑c : Int)) /\ ∃ (f : Nat -> Int) (x_8 : ByteArray), ∃ (x_9 : ByteArray) (x_10 : Int), ∃ (x_11 : Int) (f_2 : Nat -> Int), ∃ (x_12 : Int) (x_13 : ByteArray), (∀ (w' : World), S w' -> AtL w' n_3 0 (arrI .u8 f 32 0 ++ ([Value.string x_8, .string x_9, .int .i64 x_10, .int .i64 x_11] ++ arrI .u8 f_2 16 0 ++ [Value.int .i64 x_12, .string x_13]))) /\ ∃ (p_1 : Option Addr) (n_7 : Nat) (c : Nat), (∀ (w' : World), S w' -> w'.cell? (Addr.mk m (0 + 3) none) = some (.slice p_1 n_7 c)) /\ (0 <= x /\ x <= (↑n_7 : Int)) /\ (∀ (n_8 : Nat) (w1 : World), NewB W (Obj.cells #[] 91) n_8 w1 -> S w1 /\ (∃ (base : Nat) (xs : List Value) (news : List Value), w1.ownsRow base 91 72 (.slice (some (Addr.mk n_8 0
 none)) 0 0) 0 xs /\ news.length = x.toNat * 72 /\ SrcP w1 p news /\ 0 + x.toNat <= 9223372036854775807 /\ (0 + x.toNat) * 152 <= 140737488355328 /\ base <= w1.heap.size /\ ∀ (p' : Option Addr) (c' : Nat) (w' : World), w'.ownsRow base 91 72 (.slice p' (0 + x.toNat) c') (0 + x.toNat) (xs ++ news) -> w1.grownBy w' (Value.slice (some (Addr.mk n_8 0 none)) 0 0).ownBlock -> AppL w1 (some (Addr.mk n_8 0 none)) 0 0 x.toNat p' c' -> S w' /\ ∀ (n_9 : Nat) (w1 : World), NewB w' (Obj.cells (arrI .u8 f 32 0 ++ ([Value.string x_8, .string x_9, .int .i64 x_10, .int .i64 x_11] ++ arrI .u8 f_2 16 0 ++ [Value.int .i64 x_12, .string x_13, .bool false, .int .u8 0, .int .u8 0, .int .u8 0, .int .u8 0, .int .u8 0, .int .u8 0, .int .u8 0, .int .u8 0, .int .u8 0, .int .u8 0, .int .u8 0, .int .u8 0, .int .u8 0, .int .u8 0, .int .u8 0, .int .u8 0, .int .i64 0])).toArray 91) n_9 w1 -> S w1 /\ ∃ (base : Nat), ∃
 (xs : List Value), ∃ (news : List Value), w1.ownsRow base 91 72 (.slice p' (0 + x.toNat) c') (0 + x.toNat) xs /\ news.length = 72 /\ SrcP w1 (some (Addr.mk n_9 0 none)) news /\ 0 + x.toNat + 1 <= 9223372036854775807 /\ (0 + x.toNat + 1) * 152 <= 140737488355328 /\ base <= w1.heap.size /\ ∀ (p'_1 : Option Addr) (c'_1 : Nat) (w' : World), w'.ownsRow base 91 72 (.slice p'_1 (0 + x.toNat + 1) c'_1) (0 + x.toNat + 1) (xs ++ news) -> w1.grownBy w' (Value.slice p' (0 + x.toNat) c').ownBlock -> AppL w1 p' (0 + x.toNat) c' 1 p'_1 c'_1 -> S w' /\ ∃ (base : Nat) (xs : List Value) (news : List Value), w'.ownsRow base 91 72 (.slice p'_1 (0 + x.toNat + 1) c'_1) (0 + x.toNat + 1) xs /\ news.length = (n_7 - x.toNat) * 72 /\ SrcP w' (slA p_1 c x.toNat 72) news /\ 0 + x.toNat + 1 + (n_7 - x.toNat) <= 9223372036854775807 /\ (0 + x.toNat + 1 + (n_7 - x.toNat)) * 152 <= 140737488355328 /\ base <=
 w'.heap.size /\ ∀ (p' : Option Addr) (c' : Nat) (w'_4 : World), w'_4.ownsRow base 91 72 (.slice p' (0 + x.toNat + 1 + (n_7 - x.toNat)) c') (0 + x.toNat + 1 + (n_7 - x.toNat)) (xs ++ news) -> w'.grownBy w'_4 (Value.slice p'_1 (0 + x.toNat + 1) c'_1).ownBlock -> AppL w' p'_1 (0 + x.toNat + 1) c'_1 (n_7 - x.toNat) p' c' -> ((∃ (u : Value), w'_4.cell? (Addr.mk m (0 + 3) none) = some u) /\ w'_4.frozen? (Addr.mk m (0 + 3) none) = false) /\ ∀ (w1 : World), PutB w'_4 m (0 + 3) [Value.slice p' (0 + x.toNat + 1 + (n_7 - x.toNat)) c'] w1 -> KeptL [n_3, n] W w1 /\ R (.returned (.int .i64 0)) w1) /\ ∀ (n_9 : Nat) (w1_1 : World), NewB w1 (Obj.cells (arrI .u8 f 32 0 ++ ([Value.string x_8, .string x_9, .int .i64 x_10, .int .i64 x_11] ++ arrI .u8 f_2 16 0 ++ [Value.int .i64 x_12, .string x_13, .bool false, .int .u8 0, .int .u8 0, .int .u8 0, .int .u8 0, .int .u8 0, .int .u8 0, .int .u8 0, .int .u8 0,
 .int .u8 0, .int .u8 0, .int .u8 0, .int .u8 0, .int .u8 0, .int .u8 0, .int .u8 0, .int .u8 0, .int .i64 0])).toArray 91) n_9 w1_1 -> S w1_1 /\ ∃ (base : Nat) (xs : List Value) (news : List Value), w1_1.ownsRow base 91 72 (.slice (some (Addr.mk n_8 0 none)) 0 0) 0 xs /\ news.length = x.toNat * 72 /\ SrcP w1_1 p news /\ 0 + x.toNat <= 9223372036854775807 /\ (0 + x.toNat) * 152 <= 140737488355328 /\ base <= w1_1.heap.size /\ ∀ (p' : Option Addr) (c' : Nat) (w' : World), w'.ownsRow base 91 72 (.slice p' (0 + x.toNat) c') (0 + x.toNat) (xs ++ news) -> w1_1.grownBy w' (Value.slice (some (Addr.mk n_8 0 none)) 0 0).ownBlock -> AppL w1_1 (some (Addr.mk n_8 0 none)) 0 0 x.toNat p' c' -> S w' /\ ∃ (base : Nat) (xs : List Value) (news : List Value), w'.ownsRow base 91 72 (.slice p' (0 + x.toNat) c') (0 + x.toNat) xs /\ news.length = 72 /\ SrcP w' (some (Addr.mk n_9 0 none)) news /\
 0 + x.toNat + 1 <= 9223372036854775807 /\ (0 + x.toNat + 1) * 152 <= 140737488355328 /\ base <= w'.heap.size /\ ∀ (p'_1 : Option Addr) (c'_1 : Nat) (w'_4 : World), w'_4.ownsRow base 91 72 (.slice p'_1 (0 + x.toNat + 1) c'_1) (0 + x.toNat + 1) (xs ++ news) -> w'.grownBy w'_4 (Value.slice p' (0 + x.toNat) c').ownBlock -> AppL w' p' (0 + x.toNat) c' 1 p'_1 c'_1 -> S w'_4 /\ ∃ (base : Nat) (xs : List Value) (news : List Value), w'_4.ownsRow base 91 72 (.slice p'_1 (0 + x.toNat + 1) c'_1) (0 + x.toNat + 1) xs /\ news.length = (n_7 - x.toNat) * 72 /\ SrcP w'_4 (slA p_1 c x.toNat 72) news /\ 0 + x.toNat + 1 + (n_7 - x.toNat) <= 9223372036854775807 /\ (0 + x.toNat + 1 + (n_7 - x.toNat)) * 152 <= 140737488355328 /\ base <= w'_4.heap.size /\ ∀ (p' : Option Addr) (c' : Nat) (w' : World), w'.ownsRow base 91 72 (.slice p' (0 + x.toNat + 1 + (n_7 - x.toNat)) c') (0 + x.toNat + 1 + (n_7 -
 x.toNat)) (xs ++ news) -> w'_4.grownBy w' (Value.slice p'_1 (0 + x.toNat + 1) c'_1).ownBlock -> AppL w'_4 p'_1 (0 + x.toNat + 1) c'_1 (n_7 - x.toNat) p' c' -> ((∃ (u : Value), w'.cell? (Addr.mk m (0 + 3) none) = some u) /\ w'.frozen? (Addr.mk m (0 + 3) none) = false) /\ ∀ (w1 : World), PutB w' m (0 + 3) [Value.slice p' (0 + x.toNat + 1 + (n_7 - x.toNat)) c'] w1 -> KeptL [n_3, n] W w1 /\ R (.returned (.int .i64 0)) w1) /\ ∀ (n_8 : Nat) (w1 : World), NewB W (Obj.cells (arrI .u8 f 32 0 ++ ([Value.string x_8, .string x_9, .int .i64 x_10, .int .i64 x_11] ++ arrI .u8 f_2 16 0 ++ [Value.int .i64 x_12, .string x_13, .bool false, .int .u8 0, .int .u8 0, .int .u8 0, .int .u8 0, .int .u8 0, .int .u8 0, .int .u8 0, .int .u8 0, .int .u8 0, .int .u8 0, .int .u8 0, .int .u8 0, .int .u8 0, .int .u8 0, .int .u8 0, .int .u8 0, .int .i64 0])).toArray 91) n_8 w1 -> S w1 /\ ∀ (n_9 : Nat) (w1_1 : World),
 NewB w1 (Obj.cells #[] 91) n_9 w1_1 -> S w1_1 /\ ∃ (base : Nat) (xs : List Value) (news : List Value), w1_1.ownsRow base 91 72 (.slice (some (Addr.mk n_9 0 none)) 0 0) 0 xs /\ news.length = x.toNat * 72 /\ SrcP w1_1 p news /\ 0 + x.toNat <= 9223372036854775807 /\ (0 + x.toNat) * 152 <= 140737488355328 /\ base <= w1_1.heap.size /\ ∀ (p' : Option Addr) (c' : Nat) (w' : World), w'.ownsRow base 91 72 (.slice p' (0 + x.toNat) c') (0 + x.toNat) (xs ++ news) -> w1_1.grownBy w' (Value.slice (some (Addr.mk n_9 0 none)) 0 0).ownBlock -> AppL w1_1 (some (Addr.mk n_9 0 none)) 0 0 x.toNat p' c' -> S w' /\ ∃ (base : Nat) (xs : List Value) (news : List Value), w'.ownsRow base 91 72 (.slice p' (0 + x.toNat) c') (0 + x.toNat) xs /\ news.length = 72 /\ SrcP w' (some (Addr.mk n_8 0 none)) news /\ 0 + x.toNat + 1 <= 9223372036854775807 /\ (0 + x.toNat + 1) * 152 <= 140737488355328 /\ base <=
 w'.heap.size /\ ∀ (p'_1 : Option Addr) (c'_1 : Nat) (w'_4 : World), w'_4.ownsRow base 91 72 (.slice p'_1 (0 + x.toNat + 1) c'_1) (0 + x.toNat + 1) (xs ++ news) -> w'.grownBy w'_4 (Value.slice p' (0 + x.toNat) c').ownBlock -> AppL w' p' (0 + x.toNat) c' 1 p'_1 c'_1 -> S w'_4 /\ ∃ (base : Nat) (xs : List Value) (news : List Value), w'_4.ownsRow base 91 72 (.slice p'_1 (0 + x.toNat + 1) c'_1) (0 + x.toNat + 1) xs /\ news.length = (n_7 - x.toNat) * 72 /\ SrcP w'_4 (slA p_1 c x.toNat 72) news /\ 0 + x.toNat + 1 + (n_7 - x.toNat) <= 9223372036854775807 /\ (0 + x.toNat + 1 + (n_7 - x.toNat)) * 152 <= 140737488355328 /\ base <= w'_4.heap.size /\ ∀ (p' : Option Addr) (c' : Nat) (w' : World), w'.ownsRow base 91 72 (.slice p' (0 + x.toNat + 1 + (n_7 - x.toNat)) c') (0 + x.toNat + 1 + (n_7 - x.toNat)) (xs ++ news) -> w'_4.grownBy w' (Value.slice p'_1 (0 + x.toNat + 1) c'_1).ownBlock -> AppL
 w'_4 p'_1 (0 + x.toNat + 1) c'_1 (n_7 - x.toNat) p' c' -> ((∃ (u : Value), w'.cell? (Addr.mk m (0 + 3) none) = some u) /\ w'.frozen? (Addr.mk m (0 + 3) none) = false) /\ ∀ (w1 : World), PutB w' m (0 + 3) [Value.slice p' (0 + x.toNat + 1 + (n_7 - x.toNat)) c'] w1 -> KeptL [n_3, n] W w1 /\ R (.returned (.int .i64 0)) w1)) (KeptL [n_3, n] W W /\ ∀ (W_1 : World), Loc w.heap.size [Blk.mk n_3 48 (arrI .u8 i 32 0 ++ [Value.string s, .string t, .int .i64 now, .int .i64 0, .int .u8 0, .int .u8 0, .int .u8 0, .int .u8 0, .int .u8 0, .int .u8 0, .int .u8 0, .int .u8 0, .int .u8 0, .int .u8 0, .int .u8 0, .int .u8 0, .int .u8 0, .int .u8 0, .int .u8 0, .int .u8 0, .int .i64 0, .string (ByteArray.mk #[])]) 0, Blk.mk n 32 (arrI .u8 i 32 0) 0] W W_1 -> ∃ (S : World -> Prop), S W_1 /\ ∃ (p : Option Addr) (n_6 : Nat) (c : Nat), (∀ (w' : World), S w' -> w'.cell? (Addr.mk m (0 + 3) none) =
 some (.slice p n_6 c)) /\ (0 <= x /\ x <= (↑c : Int)) /\ ∃ (f : Nat -> Int) (x_7 : ByteArray), ∃ (x_8 : ByteArray) (x_9 : Int), ∃ (x_10 : Int) (f_2 : Nat -> Int), ∃ (x_11 : Int) (x_12 : ByteArray), (∀ (w' : World), S w' -> AtL w' n_3 0 (arrI .u8 f 32 0 ++ ([Value.string x_7, .string x_8, .int .i64 x_9, .int .i64 x_10] ++ arrI .u8 f_2 16 0 ++ [Value.int .i64 x_11, .string x_12]))) /\ ∃ (p_1 : Option Addr) (n_7 : Nat) (c : Nat), (∀ (w' : World), S w' -> w'.cell? (Addr.mk m (0 + 3) none) = some (.slice p_1 n_7 c)) /\ (0 <= x /\ x <= (↑n_7 : Int)) /\ (∀ (n_8 : Nat) (w1 : World), NewB W_1 (Obj.cells #[] 91) n_8 w1 -> S w1 /\ (∃ (base : Nat) (xs : List Value) (news : List Value), w1.ownsRow base 91 72 (.slice (some (Addr.mk n_8 0 none)) 0 0) 0 xs /\ news.length = x.toNat * 72 /\ SrcP w1 p news /\ 0 + x.toNat <= 9223372036854775807 /\ (0 + x.toNat) * 152 <=
 140737488355328 /\ base <= w1.heap.size /\ ∀ (p' : Option Addr) (c' : Nat) (w' : World), w'.ownsRow base 91 72 (.slice p' (0 + x.toNat) c') (0 + x.toNat) (xs ++ news) -> w1.grownBy w' (Value.slice (some (Addr.mk n_8 0 none)) 0 0).ownBlock -> AppL w1 (some (Addr.mk n_8 0 none)) 0 0 x.toNat p' c' -> S w' /\ ∀ (n_9 : Nat) (w1 : World), NewB w' (Obj.cells (arrI .u8 f 32 0 ++ ([Value.string x_7, .string x_8, .int .i64 x_9, .int .i64 x_10] ++ arrI .u8 f_2 16 0 ++ [Value.int .i64 x_11, .string x_12, .bool false, .int .u8 0, .int .u8 0, .int .u8 0, .int .u8 0, .int .u8 0, .int .u8 0, .int .u8 0, .int .u8 0, .int .u8 0, .int .u8 0, .int .u8 0, .int .u8 0, .int .u8 0, .int .u8 0, .int .u8 0, .int .u8 0, .int .i64 0])).toArray 91) n_9 w1 -> S w1 /\ ∃ (base : Nat) (xs : List Value) (news : List Value), w1.ownsRow base 91 72 (.slice p' (0 + x.toNat) c') (0 + x.toNat) xs /\ news.length = 72 /\
 SrcP w1 (some (Addr.mk n_9 0 none)) news /\ 0 + x.toNat + 1 <= 9223372036854775807 /\ (0 + x.toNat + 1) * 152 <= 140737488355328 /\ base <= w1.heap.size /\ ∀ (p'_1 : Option Addr) (c'_1 : Nat) (w' : World), w'.ownsRow base 91 72 (.slice p'_1 (0 + x.toNat + 1) c'_1) (0 + x.toNat + 1) (xs ++ news) -> w1.grownBy w' (Value.slice p' (0 + x.toNat) c').ownBlock -> AppL w1 p' (0 + x.toNat) c' 1 p'_1 c'_1 -> S w' /\ ∃ (base : Nat) (xs : List Value) (news : List Value), w'.ownsRow base 91 72 (.slice p'_1 (0 + x.toNat + 1) c'_1) (0 + x.toNat + 1) xs /\ news.length = (n_7 - x.toNat) * 72 /\ SrcP w' (slA p_1 c x.toNat 72) news /\ 0 + x.toNat + 1 + (n_7 - x.toNat) <= 9223372036854775807 /\ (0 + x.toNat + 1 + (n_7 - x.toNat)) * 152 <= 140737488355328 /\ base <= w'.heap.size /\ ∀ (p' : Option Addr) (c' : Nat) (w'_3 : World), w'_3.ownsRow base 91 72 (.slice p' (0 + x.toNat + 1 + (n_7 - x.toNat))
 c') (0 + x.toNat + 1 + (n_7 - x.toNat)) (xs ++ news) -> w'.grownBy w'_3 (Value.slice p'_1 (0 + x.toNat + 1) c'_1).ownBlock -> AppL w' p'_1 (0 + x.toNat + 1) c'_1 (n_7 - x.toNat) p' c' -> ((∃ (u : Value), w'_3.cell? (Addr.mk m (0 + 3) none) = some u) /\ w'_3.frozen? (Addr.mk m (0 + 3) none) = false) /\ ∀ (w1 : World), PutB w'_3 m (0 + 3) [Value.slice p' (0 + x.toNat + 1 + (n_7 - x.toNat)) c'] w1 -> KeptL [n_3, n] W_1 w1 /\ R (.returned (.int .i64 0)) w1) /\ ∀ (n_9 : Nat) (w1_1 : World), NewB w1 (Obj.cells (arrI .u8 f 32 0 ++ ([Value.string x_7, .string x_8, .int .i64 x_9, .int .i64 x_10] ++ arrI .u8 f_2 16 0 ++ [Value.int .i64 x_11, .string x_12, .bool false, .int .u8 0, .int .u8 0, .int .u8 0, .int .u8 0, .int .u8 0, .int .u8 0, .int .u8 0, .int .u8 0, .int .u8 0, .int .u8 0, .int .u8 0, .int .u8 0, .int .u8 0, .int .u8 0, .int .u8 0, .int .u8 0, .int .i64 0])).toArray 91) n_9 w1_1 ->
 S w1_1 /\ ∃ (base : Nat) (xs : List Value) (news : List Value), w1_1.ownsRow base 91 72 (.slice (some (Addr.mk n_8 0 none)) 0 0) 0 xs /\ news.length = x.toNat * 72 /\ SrcP w1_1 p news /\ 0 + x.toNat <= 9223372036854775807 /\ (0 + x.toNat) * 152 <= 140737488355328 /\ base <= w1_1.heap.size /\ ∀ (p' : Option Addr) (c' : Nat) (w' : World), w'.ownsRow base 91 72 (.slice p' (0 + x.toNat) c') (0 + x.toNat) (xs ++ news) -> w1_1.grownBy w' (Value.slice (some (Addr.mk n_8 0 none)) 0 0).ownBlock -> AppL w1_1 (some (Addr.mk n_8 0 none)) 0 0 x.toNat p' c' -> S w' /\ ∃ (base : Nat) (xs : List Value) (news : List Value), w'.ownsRow base 91 72 (.slice p' (0 + x.toNat) c') (0 + x.toNat) xs /\ news.length = 72 /\ SrcP w' (some (Addr.mk n_9 0 none)) news /\ 0 + x.toNat + 1 <= 9223372036854775807 /\ (0 + x.toNat + 1) * 152 <= 140737488355328 /\ base <= w'.heap.size /\ ∀ (p'_1 : Option Addr)
 (c'_1 : Nat) (w'_3 : World), w'_3.ownsRow base 91 72 (.slice p'_1 (0 + x.toNat + 1) c'_1) (0 + x.toNat + 1) (xs ++ news) -> w'.grownBy w'_3 (Value.slice p' (0 + x.toNat) c').ownBlock -> AppL w' p' (0 + x.toNat) c' 1 p'_1 c'_1 -> S w'_3 /\ ∃ (base : Nat) (xs : List Value) (news : List Value), w'_3.ownsRow base 91 72 (.slice p'_1 (0 + x.toNat + 1) c'_1) (0 + x.toNat + 1) xs /\ news.length = (n_7 - x.toNat) * 72 /\ SrcP w'_3 (slA p_1 c x.toNat 72) news /\ 0 + x.toNat + 1 + (n_7 - x.toNat) <= 9223372036854775807 /\ (0 + x.toNat + 1 + (n_7 - x.toNat)) * 152 <= 140737488355328 /\ base <= w'_3.heap.size /\ ∀ (p' : Option Addr) (c' : Nat) (w' : World), w'.ownsRow base 91 72 (.slice p' (0 + x.toNat + 1 + (n_7 - x.toNat)) c') (0 + x.toNat + 1 + (n_7 - x.toNat)) (xs ++ news) -> w'_3.grownBy w' (Value.slice p'_1 (0 + x.toNat + 1) c'_1).ownBlock -> AppL w'_3 p'_1 (0 + x.toNat + 1) c'_1 (n_7 -
 x.toNat) p' c' -> ((∃ (u : Value), w'.cell? (Addr.mk m (0 + 3) none) = some u) /\ w'.frozen? (Addr.mk m (0 + 3) none) = false) /\ ∀ (w1 : World), PutB w' m (0 + 3) [Value.slice p' (0 + x.toNat + 1 + (n_7 - x.toNat)) c'] w1 -> KeptL [n_3, n] W_1 w1 /\ R (.returned (.int .i64 0)) w1) /\ ∀ (n_8 : Nat) (w1 : World), NewB W_1 (Obj.cells (arrI .u8 f 32 0 ++ ([Value.string x_7, .string x_8, .int .i64 x_9, .int .i64 x_10] ++ arrI .u8 f_2 16 0 ++ [Value.int .i64 x_11, .string x_12, .bool false, .int .u8 0, .int .u8 0, .int .u8 0, .int .u8 0, .int .u8 0, .int .u8 0, .int .u8 0, .int .u8 0, .int .u8 0, .int .u8 0, .int .u8 0, .int .u8 0, .int .u8 0, .int .u8 0, .int .u8 0, .int .u8 0, .int .i64 0])).toArray 91) n_8 w1 -> S w1 /\ ∀ (n_9 : Nat) (w1_1 : World), NewB w1 (Obj.cells #[] 91) n_9 w1_1 -> S w1_1 /\ ∃ (base : Nat) (xs : List Value) (news : List Value), w1_1.ownsRow base 91 72 (.slice
 (some (Addr.mk n_9 0 none)) 0 0) 0 xs /\ news.length = x.toNat * 72 /\ SrcP w1_1 p news /\ 0 + x.toNat <= 9223372036854775807 /\ (0 + x.toNat) * 152 <= 140737488355328 /\ base <= w1_1.heap.size /\ ∀ (p' : Option Addr) (c' : Nat) (w' : World), w'.ownsRow base 91 72 (.slice p' (0 + x.toNat) c') (0 + x.toNat) (xs ++ news) -> w1_1.grownBy w' (Value.slice (some (Addr.mk n_9 0 none)) 0 0).ownBlock -> AppL w1_1 (some (Addr.mk n_9 0 none)) 0 0 x.toNat p' c' -> S w' /\ ∃ (base : Nat) (xs : List Value) (news : List Value), w'.ownsRow base 91 72 (.slice p' (0 + x.toNat) c') (0 + x.toNat) xs /\ news.length = 72 /\ SrcP w' (some (Addr.mk n_8 0 none)) news /\ 0 + x.toNat + 1 <= 9223372036854775807 /\ (0 + x.toNat + 1) * 152 <= 140737488355328 /\ base <= w'.heap.size /\ ∀ (p'_1 : Option Addr) (c'_1 : Nat) (w'_3 : World), w'_3.ownsRow base 91 72 (.slice p'_1 (0 + x.toNat + 1) c'_1) (0 +
 x.toNat + 1) (xs ++ news) -> w'.grownBy w'_3 (Value.slice p' (0 + x.toNat) c').ownBlock -> AppL w' p' (0 + x.toNat) c' 1 p'_1 c'_1 -> S w'_3 /\ ∃ (base : Nat) (xs : List Value) (news : List Value), w'_3.ownsRow base 91 72 (.slice p'_1 (0 + x.toNat + 1) c'_1) (0 + x.toNat + 1) xs /\ news.length = (n_7 - x.toNat) * 72 /\ SrcP w'_3 (slA p_1 c x.toNat 72) news /\ 0 + x.toNat + 1 + (n_7 - x.toNat) <= 9223372036854775807 /\ (0 + x.toNat + 1 + (n_7 - x.toNat)) * 152 <= 140737488355328 /\ base <= w'_3.heap.size /\ ∀ (p' : Option Addr) (c' : Nat) (w' : World), w'.ownsRow base 91 72 (.slice p' (0 + x.toNat + 1 + (n_7 - x.toNat)) c') (0 + x.toNat + 1 + (n_7 - x.toNat)) (xs ++ news) -> w'_3.grownBy w' (Value.slice p'_1 (0 + x.toNat + 1) c'_1).ownBlock -> AppL w'_3 p'_1 (0 + x.toNat + 1) c'_1 (n_7 - x.toNat) p' c' -> ((∃ (u : Value), w'.cell? (Addr.mk m (0 + 3) none) = some u) /\ w'.frozen?
 (Addr.mk m (0 + 3) none) = false) /\ ∀ (w1 : World), PutB w' m (0 + 3) [Value.slice p' (0 + x.toNat + 1 + (n_7 - x.toNat)) c'] w1 -> KeptL [n_3, n] W_1 w1 /\ R (.returned (.int .i64 0)) w1)))))))
theorem vc_xsubmit (m : Nat) (i : Nat -> Int) (s : ByteArray) (t : ByteArray) (now : Int) (w : World) (R : Ending -> World -> Prop) (h : VC_xsubmit m i s t now w R) : Calls Tryz.prog 26 ([Value.pointer (some { block := m, off := 0 }), .agg (arrI .u8 i 32 0).toArray, .string s, .string t, .int .i64 now] : List Value).toArray w R :=
 calls_of_exec2' (loops := [(16, [(13, Ck.int .i64)])]) (tails := [(12, 1), (16, 17), (18, 1)]) (joins := []) (boxes := []) (rngs := []) (c := Tryz.f26.body.getD .skip) pur1_ok Tryz.func26 (by kernel_rfl) (by kernel_rfl) h
end Go.Proofs.YtfacflbmlfbeeaaGreatDoor
