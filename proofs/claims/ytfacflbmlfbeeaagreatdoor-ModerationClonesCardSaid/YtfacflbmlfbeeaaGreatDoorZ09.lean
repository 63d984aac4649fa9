/- Chapter 39: the contract of the reference's set. Printed by mkxset39.py. Bytes are bytes; lists are not too long. -/
import Derived.Test.YtfacflbmlfbeeaaGreatDoorZ08
import Derived.Test.YtfacflbmlfbeeaaGreatDoorProg
import Derived.Test.YtfacflbmlfbeeaaGreatDoorZ02
import Derived.Test.YtfacflbmlfbeeaaGreatDoorZ04
import Derived.Test.YtfacflbmlfbeeaaGreatDoorZ03
import Derived.KernelRfl
import Derived.Test.YtfacflbmlfbeeaaGreatDoorZ07
namespace Go.Proofs.YtfacflbmlfbeeaaGreatDoor
open Go.RowKit Go.Sort Go.Maps
theorem auCs_one (l : List (Nat -> Int)) : ∀ u ∈ l.flatMap auC, u.oneCell' = true := fun u hu => by
 obtain ⟨z, _, hz⟩ := List.mem_flatMap.1 hu
 exact auC_one z u hz
theorem ins_sort {α : Type} {cf : α -> α -> Int} (ho : Ord3 cf) {out : List α} {x : α} {a : Nat} (hs : out.Pairwise fun x y => cf x y < 0) (hlo : ∀ (j : Nat) (y : α), j < a -> out[j]? = some y -> cf y x < 0) (hhi : ∀ y : α, out[a]? = some y -> cf x y < 0) : (insL out a x).Pairwise fun x y => cf x y < 0 := by
 have hsp := hs
 rw [<- List.take_append_drop a out, List.pairwise_append] at hsp
 have h1 : ∀ y ∈ out.take a, cf y x < 0 := fun y hy => by
  obtain ⟨j, hj⟩ := List.getElem?_of_mem hy
  rw [List.getElem?_take] at hj
  split at hj
  ·rename_i hja
   exact hlo j y hja hj
  ·cases hj
 have h2 : ∀ y ∈ out.drop a, cf x y < 0 := fun y hy => by
  obtain ⟨j, hj⟩ := List.getElem?_of_mem hy
  rw [List.getElem?_drop] at hj
  cases j with
  | zero => exact hhi y hj
  | succ j =>
   obtain ⟨hl, e⟩ := List.getElem?_eq_some_iff.1 hj
   have h3 := hhi (out[a]'(by omega)) (List.getElem?_eq_getElem (by omega))
   have h4 := List.pairwise_iff_getElem.1 hs a (a + (j + 1)) (by omega) hl (by omega)
   rw [e] at h4
   exact ho.tlt _ _ _ h3 h4
 unfold insL
 rw [List.pairwise_append, List.pairwise_cons]
 refine ⟨hsp.1, ⟨h2, hsp.2.1⟩, fun y hy z hz => ?_⟩
 rcases List.mem_cons.1 hz with rfl | hz
 ·exact h1 y hy
 ·exact hsp.2.2 y hy z hz
theorem srt_nodup {out : List (Nat -> Int)} (hs : out.Pairwise fun x y => cfA x y < 0) : (out.map auI).Nodup := by
 rw [List.Nodup, List.pairwise_map]
 refine hs.imp fun {x y} h e => ?_
 have : cfA x y = 0 := by unfold cfA auB; rw [e]; exact cb_self _
 omega
theorem dup39 {l : List (Nat -> Int)} {i : Nat} {x y : Nat -> Int} (hx : l[i]? = some x) (hy : y ∈ l.take i) (he : auI y = auI x) : ¬ (l.map auI).Nodup := by
 intro hn
 obtain ⟨j, hj⟩ := List.getElem?_of_mem hy
 rw [List.getElem?_take] at hj
 split at hj
 ·rename_i hji
  obtain ⟨h1, e1⟩ := List.getElem?_eq_some_iff.1 hx
  obtain ⟨h2, e2⟩ := List.getElem?_eq_some_iff.1 hj
  have := List.pairwise_iff_getElem.1 hn j i (by simpa using h2) (by simpa using h1) hji
  simp only [List.getElem_map, e1, e2] at this
  exact this he
 ·cases hj
def gset : List Gx -> ByteArray -> MX -> List Gx
 | [], g, X => [⟨g, X⟩]
 | y :: r, g, X => if y.g = g then ⟨g, X⟩ :: r else y :: gset r g X
theorem gset_at : ∀ (l : List Gx) (i : Nat) (y : Gx) (g : ByteArray) (X : MX), l[i]? = some y -> y.g = g -> (∀ (j : Nat) (z : Gx), j < i -> l[j]? = some z -> decide (z.g = g) = false) -> gset l g X = l.set i ⟨g, X⟩
 | [], i, y, g, X, h, _, _ => by simp at h
 | a :: l, 0, y, g, X, h, hg, _ => by
  simp only [List.getElem?_cons_zero, Option.some.injEq] at h
  subst h
  unfold gset
  rw [if_pos hg]; rfl
 | a :: l, i + 1, y, g, X, h, hg, hn => by
  unfold gset
  rw [if_neg (by simpa using hn 0 a (by omega) rfl), gset_at l i y g X (by simpa using h) hg (fun j z hj hz => hn (j + 1) z (by omega) (by simpa using hz))]
  rfl
theorem gset_no : ∀ (l : List Gx) (g : ByteArray) (X : MX), (∀ (j : Nat) (z : Gx), l[j]? = some z -> decide (z.g = g) = false) -> gset l g X = l ++ [⟨g, X⟩]
 | [], g, X, _ => rfl
 | a :: l, g, X, hn => by
  unfold gset
  rw [if_neg (by simpa using hn 0 a rfl), gset_no l g X (fun j z hz => hn (j + 1) z (by simpa using hz))]
  rfl
theorem put1 {v u : Value} {s : ByteArray} : ([.string s, v] : List Value) = putL [.string s, u] 1 [v] := rfl
theorem MoR.setg {w w1 : World} {B m : Nat} {M : Mo} {P : Pl} (h : MoR w B m M P) {i g : Nat} {y : Gx} {X : MX} (hy : M.gs[i]? = some y) (hp : P.gp = some ⟨g, 0, none⟩) (hX : RowA auC 16 w X.p X.l /\ TyA w X.p) (hput : PutB w g (0 + i * 2 + 1) [mxV X] w1) :
  MoR w1 B m { M with gs := M.gs.set i ⟨y.g, X⟩ } P /\ Kp (MF w B) w w1 := by
 have hg : (Value.slice P.gp M.gs.length P.gc).ownBlock = some g := by rw [hp]; rfl
 have hmf : Kp (MF w B) w w1 := hput.kp.mono fun k _ e => by have e : k = g := e; rw [e]; exact h.mfg hg
 have hgt := own_type h.gw hg
 obtain ⟨gc, hgc⟩ := hgt
 have hgw := h.gw
 rw [hp] at hgw
 have h2 := own_part (f := gxC) (y := y) (y' := ⟨y.g, X⟩) hgw rfl gxC_length (by decide) hy (by show 1 + 1 <= 2; omega) put1 hput
 refine ⟨⟨?_, h.ge, ?_, ?_, fun z hz => ?_⟩, hmf⟩
 ·rw [show (M.gs.set i ⟨y.g, X⟩).length = M.gs.length from List.length_set]
  exact hput.blk h.st (fun e => by have h3 := h.st; rw [e, hgc] at h3; cases h3)
 ·rw [show (M.gs.set i ⟨y.g, X⟩).length = M.gs.length from List.length_set]
  rw [hp]; exact h2
 ·exact owns_kp h.ew hput.kp (fun k hk e => by
   have e : k = g := e
   subst e
   exact own_not h.ew hgc (by decide) hk)
 ·rcases List.mem_or_eq_of_mem_set hz with hz | rfl
  ·exact ⟨(h.ms z hz).1.mf (h.ms z hz).2 hmf, (h.ms z hz).2.mf hmf⟩
  ·exact ⟨hX.1.mf hX.2 hmf, hX.2.mf hmf⟩
def xsI (w : World) (l : List (Nat -> Int)) (vs : List Value) (w' : World) : Prop := ∃ (i : Nat) (p1 : Option Addr) (c1 : Nat) (out : List (Nat -> Int)), vs = [.int .i64 (i : Int), .slice p1 out.length c1] /\ i <= l.length /\ out.Perm (l.take i) /\ (out.Pairwise fun x y => cfA x y < 0) /\ w'.ownsRow w.heap.size 45 16 (.slice p1 out.length c1) out.length (out.flatMap auC) /\ K0 w w'
def xsM (l : List (Nat -> Int)) (vs : List Value) (_ : World) : Nat := match vs with | .int _ a :: _ => l.length - a.toNat | _ => 0
set_option maxRecDepth 100000 in
set_option maxHeartbeats 8000000 in
theorem xset_any {w : World} {B m : Nat} {M : Mo} {P : Pl} (h : MoR w B m M P) (hl : M.gs.length <= 1000000) (g : ByteArray) (l : List (Nat -> Int)) (p : Option Addr) (c : Nat) (hR : RowA auC 16 w p l) (hb : ∀ z ∈ l, BY z) :
  Calls Tryz.prog 25 #[.pointer (some ⟨m, 0, none⟩), .string g, .slice p l.length c] w fun e w' => e = .returned (.int .i64 (setE g l)) /\ ((setE g l ≠ 0 /\ MoR w' B m M P) \/ (setE g l = 0 /\ ∃ (X : MX) (P' : Pl), X.l.Perm l /\ (X.l.Pairwise fun x y => cfA x y < 0) /\ MoR w' B m { M with gs := gset M.gs g X } P')) /\ Kp (MF w B) w w' := by
 refine vc_xset m g p l.length c w _ ⟨(xgcheck_any g w).mono fun e w0 ⟨he, k0⟩ => ⟨_, he, .of_k0 k0, bsp_intro (fun h1 => ?_) (fun h1 => bsp_intro (fun h2 => ?_) (fun h2 => ?_))⟩⟩
 ·have h1 : gnE g ≠ 0 := by simpa using h1
  have hE : setE g l = gnE g := by unfold setE; rw [if_pos h1]
  exact ⟨by rw [hE], .inl ⟨by rw [hE]; exact h1, h.k0 k0⟩, .mf0 k0⟩
 ·have h1 : gnE g = 0 := by simpa using h1
  have h2 : 8 < l.length := by simp at h2; omega
  have hE : setE g l = 9 := by unfold setE; rw [if_neg (by omega), if_pos h2]
  exact ⟨by rw [hE], .inl ⟨by rw [hE]; decide, h.k0 k0⟩, .mf0 k0⟩
 have h1 : gnE g = 0 := by simpa using h1
 have h2 : ¬ 8 < l.length := by simp at h2; omega
 refine ⟨xsI w l, xsM l, ⟨0, none, 0, [], rfl, by omega, by rw [List.take_zero], .nil, World.ownsRow_nil _ _ _ _, k0⟩, ?_⟩
 rintro xi p1 n1 c1 w1 ⟨i, p1', c1', out, hv, hi, hpm, hsr, ho, k1⟩
 simp only [List.cons.injEq, Value.int.injEq, Value.slice.injEq, true_and, and_true] at hv
 obtain ⟨rfl, rfl, rfl, rfl⟩ := hv
 have hR1 := hR.k0 k1
 refine bsp_intro (fun hlt => ?_) (fun hge => ?_)
 ·have hlt : i < l.length := by simp at hlt; omega
  obtain ⟨x, bx, ox, hx, hpx, hatx⟩ := hR1.get hlt
  have hbx := hb x (List.mem_of_getElem? hx)
  have hol : out.length = i := by rw [hpm.length_eq, List.length_take]; omega
  have hbo : ∀ z ∈ out, BY z := fun z hz => hb z (List.mem_of_mem_take (hpm.subset hz))
  have hperm : ∀ (a : Nat) (x : Nat -> Int), l[i]? = some x -> (insL out a x).Perm (l.take (i + 1)) := fun a x hx => by
   rw [take_snoc hx]
   exact (insL_perm out a x).trans ((List.perm_append_comm (l₁ := [x]) (l₂ := out)).trans (hpm.append_right [x]))
  refine ⟨fun vs w' => ∃ a : Nat, vs = [.int .i64 (a : Int)] /\ a <= out.length /\ (∀ (j : Nat) (y : Nat -> Int), j < a -> out[j]? = some y -> cfA y x < 0) /\ K0 w1 w', fun vs _ => (match vs with | .int _ a :: _ => out.length - a.toNat | _ => 0), ⟨0, rfl, by omega, (fun j y h => by omega), .refl _ _⟩, ?_⟩
  rintro xa w2 ⟨a, hv, hao, hlow, k2⟩
  simp only [List.cons.injEq, Value.int.injEq, true_and, and_true] at hv
  subst hv
  rw [Int.toNat_natCast, Int.toNat_natCast]
  rcases Nat.lt_or_ge a out.length with hal | hal
  ·have hd : decide ((a : Int) < (out.length : Int)) = true := by simp; omega
   obtain ⟨y, b, o, hy, hpy, haty⟩ := (RowA.own (owns_kp ho k2 (fun _ _ h => h)) auC_length (by decide)).get hal
   have hby := hbo y (List.mem_of_getElem? hy)
   simp only [hd]
   refine nn_is hpy ⟨gimp_intro fun _ => ⟨by omega, by omega⟩, y, gimp_intro fun _ W hW => haty.k0 (hW.kk rfl), nn_is hpx ⟨gimp_intro fun _ => ⟨by omega, by omega⟩, x, gimp_intro fun _ W hW => hatx.k0 (k2.trans (hW.kk rfl)), fun W3 hW3 => bsp_intro (fun _ => ?_) (fun h => by cases h)⟩⟩
   have k3 : K0 w1 W3 := k2.trans (hW3.kk rfl)
   refine ⟨(xcmp_any y x hby hbx W3).mono fun e w4 ⟨he, k4⟩ => ⟨_, he, .of_k0 k4, bsp_intro (fun h3 => ?_) (fun h3 => ?_)⟩⟩
   ·have h3 : cfA y x < 0 := by simpa using h3
    rw [inc64 (by omega)]
    refine ⟨⟨a + 1, rfl, hal, fun j z hj hz => ?_, k3.trans k4⟩, by simp only [Int.toNat_natCast]; omega⟩
    by_cases e : j = a
    ·subst e; rw [hy] at hz; cases hz; exact h3
    ·exact hlow j z (by omega) hz
   have h3 : ¬ cfA y x < 0 := by simpa using h3
   have k14 := k3.trans k4
   have haty4 := haty.k0 ((hW3.kk rfl : K0 w2 W3).trans k4)
   refine nn_is hpy ⟨gimp_intro fun _ => ⟨by omega, by omega⟩, y, gimp_intro fun _ W hW => haty4.k0 (hW.kk rfl), nn_is hpx ⟨gimp_intro fun _ => ⟨by omega, by omega⟩, x, gimp_intro fun _ W hW => hatx.k0 (k14.trans (hW.kk rfl)), _, gimp_intro fun _ => auEq hby hbx, bsp_intro (fun h4 W5 hW5 => ?_) (fun h4 W5 hW5 => ?_)⟩⟩
   ·have h4 : auI y = auI x := by simpa using h4
    have hE : setE g l = 7 := by
     unfold setE
     rw [if_neg (by omega), if_neg h2, if_neg]
     exact dup39 hx (hpm.subset (List.mem_of_getElem? hy)) h4
    have kk := k1.trans (k14.trans (hW5.kk rfl))
    exact ⟨by rw [hE], .inl ⟨by rw [hE]; decide, h.k0 kk⟩, .mf0 kk⟩
   have h4 : auI y ≠ auI x := by simpa using h4
   have k5 : K0 w1 W5 := k14.trans (hW5.kk rfl)
   have hsrt : (insL out a x).Pairwise fun x y => cfA x y < 0 := ins_sort cfA_ord hsr hlow (fun z hz => by
    rw [hy] at hz
    cases hz
    have e1 := cfA_ord.anti x y
    have e2 : cfA y x ≠ 0 := fun e => h4 (auB_inj hby hbx (cb_zero _ _ e))
    omega)
   have k0W5 := k1.trans k5
   have hoW := owns_kp ho k5 (fun _ _ h => h)
   have hT : ((out.flatMap auC).take (a * 16)).length = a * 16 := by rw [List.length_take, auC_flat]; omega
   have hD : ((out.flatMap auC).drop (a * 16)).length = (out.length - a) * 16 := by rw [List.length_drop, auC_flat]; omega
   have hst : ∀ {wx : World}, K0 W5 wx -> SrcP wx p1 ((out.flatMap auC).take (a * 16)) := fun k => src_take (owns_kp hoW k (fun _ _ h => h)) (auCs_one out) _
   have hsd : ∀ {wx : World}, K0 W5 wx -> SrcP wx (slA p1 c1 a 16) ((out.flatMap auC).drop (a * 16)) := fun k => src_drop (owns_kp hoW k (fun _ _ h => h)) (auCs_one out) hao
   have hle := own_le ho
   have fin : ∀ (p' : Option Addr) (c' : Nat) (w9 : World), w9.ownsRow W5.heap.size 45 16 (.slice p' (0 + a + 1 + (out.length - a)) c') (0 + a + 1 + (out.length - a)) ((([] ++ (out.flatMap auC).take (a * 16)) ++ auC x) ++ (out.flatMap auC).drop (a * 16)) -> K0 W5 w9 -> KeptL [] W5 w9 /\ xsI w l [.int .i64 (IntKind.i64.wrap ((i : Int) + 1)), .slice p' (0 + a + 1 + (out.length - a)) c'] w9 /\ xsM l [.int .i64 (IntKind.i64.wrap ((i : Int) + 1)), .slice p' (0 + a + 1 + (out.length - a)) c'] w9 < xsM l [.int .i64 (i : Int), .slice p1 out.length c1] w1 := fun p' c' w9 o9 k9 => ⟨KeptL.of_k0 k9, ⟨i + 1, p', c', insL out a x, by rw [inc64 (by omega), insL_len hao], hlt, hperm a x hx, hsrt, by
    rw [insL_len hao]
    rw [List.nil_append, insL_flat auC 16 out a x (fun _ => rfl)] at o9
    exact own_base o9 k0W5.size, k0W5.trans k9⟩, by rw [inc64 (by omega)]; show l.length - ((i + 1 : Nat) : Int).toNat < l.length - (i : Int).toNat; simp only [Int.toNat_natCast]; omega⟩
   refine ⟨fun wx => K0 W5 wx, .refl _ _, ⟨by omega, by omega⟩, nn_is hpx ⟨⟨by omega, by omega⟩, x, fun wx k => hatx.k0 (k5.trans k), ⟨by omega, by omega⟩, ?_, ?_⟩⟩
   ·exact fun n6 w6 h6 => ⟨h6.kp _,
     app_own (w0 := W5) (E := 16) (m := a) (own_none h6.ge h6.block) (h6.kp _) (by omega) (by omega) hT (hst (h6.kp _)) (fun p7 c7 w7 o7 k7 _ => ⟨k7, fun n8 w8 h8 =>
      app_own (E := 16) (m := 1) (owns_kp o7 (h8.kp (fun _ => False)) (fun _ _ h => h)) (k7.trans (h8.kp _)) (by omega) (by omega) rfl (src_block h8.block (auC_one x)) (fun p9 c9 w9 o9 k9 _ =>
       app_own (E := 16) (m := out.length - a) o9 k9 (by omega) (by omega) hD (hsd k9) (fun pa ca wa oa ka _ => fin pa ca wa oa ka))⟩),
     fun n7 w7 h7 => app_own (w0 := W5) (E := 16) (m := a) (own_none h6.ge ((h7.kp (fun _ => False)).blk h6.block (fun h => h))) ((h6.kp _).trans (h7.kp _)) (by omega) (by omega) hT (hst ((h6.kp _).trans (h7.kp _))) (fun p8 c8 w8 o8 k8 g8 => ⟨k8,
      app_own (E := 16) (m := 1) o8 k8 (by omega) (by omega) rfl (src_block (g8.blk h7.block (fun e => by have := own_n39 e; have := h6.size; have := h7.ge; omega)) (auC_one x)) (fun p9 c9 w9 o9 k9 _ =>
       app_own (E := 16) (m := out.length - a) o9 k9 (by omega) (by omega) hD (hsd k9) (fun pa ca wa oa ka _ => fin pa ca wa oa ka))⟩)⟩
   ·exact fun n6 w6 h6 n7 w7 h7 => ⟨(h6.kp _).trans (h7.kp _),
     app_own (w0 := W5) (E := 16) (m := a) (own_none (Nat.le_trans (h6.kp (fun _ => False)).size h7.ge) h7.block) ((h6.kp _).trans (h7.kp _)) (by omega) (by omega) hT (hst ((h6.kp _).trans (h7.kp _))) (fun p8 c8 w8 o8 k8 g8 => ⟨k8,
      app_own (E := 16) (m := 1) o8 k8 (by omega) (by omega) rfl (src_block (g8.blk ((h7.kp (fun _ => False)).blk h6.block (fun h => h)) (fun e => by have := own_n39 e; have := h6.size; have := h7.ge; omega)) (auC_one x)) (fun p9 c9 w9 o9 k9 _ =>
       app_own (E := 16) (m := out.length - a) o9 k9 (by omega) (by omega) hD (hsd k9) (fun pa ca wa oa ka _ => fin pa ca wa oa ka))⟩)⟩
  ·have hd : decide ((a : Int) < (out.length : Int)) = false := by simp; omega
   simp only [hd]
   refine nn_off fun _ _ => ⟨gimp_intro (fun h => by cases h), fun _ => 0, gimp_intro (fun h => by cases h), nn_off fun _ _ => ⟨gimp_intro (fun h => by cases h), fun _ => 0, gimp_intro (fun h => by cases h), fun W4 hW4 => bsp_intro (fun h => by cases h) (fun _ => ⟨.refl _ _, nn_off fun _ _ => ⟨gimp_intro (fun h => by cases h), fun _ => 0, gimp_intro (fun h => by cases h), nn_off fun _ _ => ⟨gimp_intro (fun h => by cases h), fun _ => 0, gimp_intro (fun h => by cases h), false, gimp_intro (fun h => by cases h), bsp_intro (fun h => by cases h) (fun _ W5 hW5 => ?_)⟩⟩⟩)⟩⟩
   have k5 : K0 w1 W5 := (k2.trans (hW4.kk rfl)).trans (hW5.kk rfl)
   have hsrt : (insL out a x).Pairwise fun x y => cfA x y < 0 := ins_sort cfA_ord hsr hlow (fun z hz => by
    rw [List.getElem?_eq_none (by omega)] at hz
    cases hz)
   have k0W5 := k1.trans k5
   have hoW := owns_kp ho k5 (fun _ _ h => h)
   have hT : ((out.flatMap auC).take (a * 16)).length = a * 16 := by rw [List.length_take, auC_flat]; omega
   have hD : ((out.flatMap auC).drop (a * 16)).length = (out.length - a) * 16 := by rw [List.length_drop, auC_flat]; omega
   have hst : ∀ {wx : World}, K0 W5 wx -> SrcP wx p1 ((out.flatMap auC).take (a * 16)) := fun k => src_take (owns_kp hoW k (fun _ _ h => h)) (auCs_one out) _
   have hsd : ∀ {wx : World}, K0 W5 wx -> SrcP wx (slA p1 c1 a 16) ((out.flatMap auC).drop (a * 16)) := fun k => src_drop (owns_kp hoW k (fun _ _ h => h)) (auCs_one out) hao
   have hle := own_le ho
   have fin : ∀ (p' : Option Addr) (c' : Nat) (w9 : World), w9.ownsRow W5.heap.size 45 16 (.slice p' (0 + a + 1 + (out.length - a)) c') (0 + a + 1 + (out.length - a)) ((([] ++ (out.flatMap auC).take (a * 16)) ++ auC x) ++ (out.flatMap auC).drop (a * 16)) -> K0 W5 w9 -> KeptL [] W5 w9 /\ xsI w l [.int .i64 (IntKind.i64.wrap ((i : Int) + 1)), .slice p' (0 + a + 1 + (out.length - a)) c'] w9 /\ xsM l [.int .i64 (IntKind.i64.wrap ((i : Int) + 1)), .slice p' (0 + a + 1 + (out.length - a)) c'] w9 < xsM l [.int .i64 (i : Int), .slice p1 out.length c1] w1 := fun p' c' w9 o9 k9 => ⟨KeptL.of_k0 k9, ⟨i + 1, p', c', insL out a x, by rw [inc64 (by omega), insL_len hao], hlt, hperm a x hx, hsrt, by
    rw [insL_len hao]
    rw [List.nil_append, insL_flat auC 16 out a x (fun _ => rfl)] at o9
    exact own_base o9 k0W5.size, k0W5.trans k9⟩, by rw [inc64 (by omega)]; show l.length - ((i + 1 : Nat) : Int).toNat < l.length - (i : Int).toNat; simp only [Int.toNat_natCast]; omega⟩
   refine ⟨fun wx => K0 W5 wx, .refl _ _, ⟨by omega, by omega⟩, nn_is hpx ⟨⟨by omega, by omega⟩, x, fun wx k => hatx.k0 (k5.trans k), ⟨by omega, by omega⟩, ?_, ?_⟩⟩
   ·exact fun n6 w6 h6 => ⟨h6.kp _,
     app_own (w0 := W5) (E := 16) (m := a) (own_none h6.ge h6.block) (h6.kp _) (by omega) (by omega) hT (hst (h6.kp _)) (fun p7 c7 w7 o7 k7 _ => ⟨k7, fun n8 w8 h8 =>
      app_own (E := 16) (m := 1) (owns_kp o7 (h8.kp (fun _ => False)) (fun _ _ h => h)) (k7.trans (h8.kp _)) (by omega) (by omega) rfl (src_block h8.block (auC_one x)) (fun p9 c9 w9 o9 k9 _ =>
       app_own (E := 16) (m := out.length - a) o9 k9 (by omega) (by omega) hD (hsd k9) (fun pa ca wa oa ka _ => fin pa ca wa oa ka))⟩),
     fun n7 w7 h7 => app_own (w0 := W5) (E := 16) (m := a) (own_none h6.ge ((h7.kp (fun _ => False)).blk h6.block (fun h => h))) ((h6.kp _).trans (h7.kp _)) (by omega) (by omega) hT (hst ((h6.kp _).trans (h7.kp _))) (fun p8 c8 w8 o8 k8 g8 => ⟨k8,
      app_own (E := 16) (m := 1) o8 k8 (by omega) (by omega) rfl (src_block (g8.blk h7.block (fun e => by have := own_n39 e; have := h6.size; have := h7.ge; omega)) (auC_one x)) (fun p9 c9 w9 o9 k9 _ =>
       app_own (E := 16) (m := out.length - a) o9 k9 (by omega) (by omega) hD (hsd k9) (fun pa ca wa oa ka _ => fin pa ca wa oa ka))⟩)⟩
   ·exact fun n6 w6 h6 n7 w7 h7 => ⟨(h6.kp _).trans (h7.kp _),
     app_own (w0 := W5) (E := 16) (m := a) (own_none (Nat.le_trans (h6.kp (fun _ => False)).size h7.ge) h7.block) ((h6.kp _).trans (h7.kp _)) (by omega) (by omega) hT (hst ((h6.kp _).trans (h7.kp _))) (fun p8 c8 w8 o8 k8 g8 => ⟨k8,
      app_own (E := 16) (m := 1) o8 k8 (by omega) (by omega) rfl (src_block (g8.blk ((h7.kp (fun _ => False)).blk h6.block (fun h => h)) (fun e => by have := own_n39 e; have := h6.size; have := h7.ge; omega)) (auC_one x)) (fun p9 c9 w9 o9 k9 _ =>
       app_own (E := 16) (m := out.length - a) o9 k9 (by omega) (by omega) hD (hsd k9) (fun pa ca wa oa ka _ => fin pa ca wa oa ka))⟩)⟩
 ·have hi2 : i = l.length := by simp at hge; omega
  subst hi2
  rw [List.take_length] at hpm
  have hE : setE g l = 0 := by
   unfold setE
   rw [if_neg (by omega), if_neg h2, if_pos]
   exact ((hpm.map auI).nodup_iff).1 (srt_nodup hsr)
  have hM1 := h.k0 k1
  have hlen := hpm.length_eq
  have hX : RowA auC 16 w1 p1 out /\ TyA w1 p1 := ⟨RowA.own ho auC_length (by decide), TyA.own ho⟩
  refine ⟨fun vs w' => ∃ i : Nat, vs = [.int .i64 (i : Int)] /\ i <= M.gs.length /\ (∀ (j : Nat) (y : Gx), j < i -> M.gs[j]? = some y -> decide (y.g = g) = false) /\ K0 w1 w', fun vs _ => (match vs with | .int _ a :: _ => M.gs.length - a.toNat | _ => 0), ⟨0, rfl, by omega, fun j y h => by omega, .refl _ _⟩, ?_⟩
  rintro xk w2 ⟨k, hv, hk, hno, k2⟩
  simp only [List.cons.injEq, Value.int.injEq, true_and, and_true] at hv
  subst hv
  have hM2 := hM1.k0 k2
  have hX2 : RowA auC 16 w2 p1 out /\ TyA w2 p1 := ⟨hX.1.k0 k2, hX.2.k0 k2⟩
  have k02 := k1.trans k2
  refine ⟨_, _, _, hM2.cG, bsp_intro (fun hlt => ⟨_, _, _, hM2.cG, ?_⟩) (fun hge => ⟨_, _, _, hM2.cG, fun n3 W hW => ?_⟩)⟩
  ·have hlt : k < M.gs.length := by simp at hlt; omega
   obtain ⟨y, b, o, hy, hp, hat⟩ := hM2.rowG.get hlt
   obtain ⟨g1, hg1, hwr⟩ := own_wrc hM2.gw hlt (j := 1) (by decide)
   rw [hp] at hg1
   simp only [Option.some.injEq, Addr.mk.injEq, and_true] at hg1
   obtain ⟨rfl, rfl⟩ := hg1
   rw [Int.toNat_natCast]
   refine nn_is hp ⟨⟨by omega, by omega⟩, y.g, hat.cell (j := 0) rfl, bsp_intro (fun hb => ?_) (fun hb => ?_)⟩
   ·rw [str_beq] at hb
    refine ⟨_, _, _, hM2.cG, nn_is hp ⟨⟨by omega, by omega⟩, hwr, fun w3 hput => ⟨.of_kp hput.kp (fun z hz => by cases hz), ?_⟩⟩⟩
    obtain ⟨hM3, k3⟩ := hM2.setg (X := ⟨out, p1, c1⟩) hy hp hX2 hput
    have eg : y.g = g := by simpa using hb
    rw [eg, <- gset_at M.gs k y g ⟨out, p1, c1⟩ hy eg hno] at hM3
    exact ⟨by rw [hE], .inr ⟨hE, ⟨out, p1, c1⟩, P, hpm, hsr, hM3⟩, (Kp.mf0 k02).mft k3⟩
   ·rw [str_beq] at hb
    rw [inc64 (by omega)]
    refine ⟨⟨k + 1, rfl, hlt, fun j z hj hz => ?_, k2⟩, by simp only [Int.toNat_natCast]; omega⟩
    by_cases e : j = k
    ·subst e; rw [hy] at hz; cases hz; exact hb
    ·exact hno j z (by omega) hz
  ·have hk2 : k = M.gs.length := by simp at hge; omega
   subst hk2
   have hnone : ∀ (j : Nat) (z : Gx), M.gs[j]? = some z -> decide (z.g = g) = false := fun j z hz => hno j z (List.getElem?_eq_some_iff.1 hz).1 hz
   have kW : K0 w2 W := hW.kk rfl
   have hMW := hM2.k0 kW
   have hXW : RowA auC 16 W p1 out /\ TyA W p1 := ⟨hX2.1.k0 kW, hX2.2.k0 kW⟩
   have hBW : B <= W.heap.size := Nat.le_of_lt (Nat.lt_of_le_of_lt h.ge (block_lt hMW.st))
   refine ⟨B, _, hMW.gw, by omega, by omega, hBW, fun p4 c4 w4 ho4 hg4 _ => ?_⟩
   have kg := kp_grown hg4
   have kgm : Kp (MF W B) W w4 := kg.mono fun j _ e => hMW.mfg e
   have hst4 := kg.blk hMW.st (own_not hMW.gw hMW.st (by decide))
   refine ⟨.of_kp kg (fun z hz => by cases hz), cell_wr hst4 (by show 0 + 2 < 4; omega), fun w5 hput => ⟨.of_kp hput.kp (fun z hz => by cases hz), ?_⟩⟩
   have hmm : MF w4 B m := ⟨h.ge, _, _, _, hst4, .inl rfl⟩
   have kp5 : Kp (MF w4 B) w4 w5 := hput.kp.mono fun j _ e => by have e : j = m := e; rw [e]; exact hmm
   have e1 : (M.gs ++ [(⟨g, ⟨out, p1, c1⟩⟩ : Gx)]).length = M.gs.length + 1 := by simp
   have e2 : (M.gs ++ [(⟨g, ⟨out, p1, c1⟩⟩ : Gx)]).flatMap gxC = M.gs.flatMap gxC ++ [.string g, .slice p1 out.length c1] := by rw [List.flatMap_append]; rfl
   have hew4 := owns_kp hMW.ew kg (fun j hj e => by
    obtain ⟨cc, hcc⟩ := own_type hMW.gw e
    exact own_not hMW.ew hcc (by decide) hj)
   have hew5 := owns_kp hew4 hput.kp (fun j hj e => by have e : j = m := e; subst e; exact own_not hew4 hst4 (by decide) hj)
   have hgw5 := owns_kp ho4 hput.kp (fun j hj e => by have e : j = m := e; subst e; exact own_not ho4 hst4 (by decide) hj)
   have k05 : Kp (MF W B) W w5 := kgm.mft kp5
   have hM5 : MoR w5 B m { M with gs := gset M.gs g ⟨out, p1, c1⟩ } ⟨p4, c4, P.ep, P.ec⟩ := by
    rw [gset_no M.gs g ⟨out, p1, c1⟩ hnone]
    refine ⟨?_, h.ge, ?_, hew5, fun z hz => ?_⟩
    ·rw [e1]
     exact hput.block hst4
    ·rw [e1, e2]; exact hgw5
    ·rcases List.mem_append.1 hz with hz | hz
     ·exact ⟨(hMW.ms z hz).1.mf (hMW.ms z hz).2 k05, (hMW.ms z hz).2.mf k05⟩
     ·rcases List.mem_singleton.1 hz with rfl
      exact ⟨hXW.1.mf hXW.2 k05, hXW.2.mf k05⟩
   exact ⟨by rw [hE], .inr ⟨hE, ⟨out, p1, c1⟩, _, hpm, hsr, hM5⟩, (Kp.mf0 (k02.trans kW)).mft k05⟩
end Go.Proofs.YtfacflbmlfbeeaaGreatDoor
namespace Go.Proofs.YtfacflbmlfbeeaaGreatDoor
set_option maxRecDepth 100000
set_option linter.unusedVariables false
def VC_xclaim (m : Nat) (s : ByteArray) (a : Nat -> Int) (now : Int) (w : World) (R : Ending -> World -> Prop) : Prop := ∀ (n n_1 : Nat) (W : World), Loc w.heap.size [Blk.mk n_1 48 [Value.int .u8 0, .int .u8 0, .int .u8 0, .int .u8 0, .int .u8 0, .int .u8 0, .int .u8 0, .int .u8 0, .int .u8 0, .int .u8 0, .int .u8 0, .int .u8 0, .int .u8 0, .int .u8 0, .int .u8 0, .int .u8 0, .int .u8 0, .int .u8 0, .int .u8 0, .int .u8 0, .int .u8 0, .int .u8 0, .int .u8 0, .int .u8 0, .int .u8 0, .int .u8 0, .int .u8 0, .int .u8 0, .int .u8 0, .int .u8 0, .int .u8 0, .int .u8 0, .string (ByteArray.mk #[]), .string (ByteArray.mk #[]), .int .i64 0, .int .i64 0, .int .u8 0, .int .u8 0, .int .u8 0, .int .u8 0, .int .u8 0, .int .u8 0, .int .u8 0, .int .u8 0, .int .u8 0, .int .u8 0, .int .u8 0, .int .u8 0, .int .u8 0, .int .u8 0, .int .u8 0, .int .u8 0, .int .i64 0, .string (ByteArray.mk #[])] 2,
 Blk.mk n 45 (arrI .u8 a 16 0) 2] w W -> CallsS Tryz.prog 36 #[.int .i64 now] W fun (e : Ending) (w' : World) => ∃ (x : Bool), e = .returned (.bool x) /\ KeptL [n_1, n] W w' /\ bsp (!x) (∀ (W : World), Loc w.heap.size [Blk.mk n_1 48 [Value.int .u8 0, .int .u8 0, .int .u8 0, .int .u8 0, .int .u8 0, .int .u8 0, .int .u8 0, .int .u8 0, .int .u8 0, .int .u8 0, .int .u8 0, .int .u8 0, .int .u8 0, .int .u8 0, .int .u8 0, .int .u8 0, .int .u8 0, .int .u8 0, .int .u8 0, .int .u8 0, .int .u8 0, .int .u8 0, .int .u8 0, .int .u8 0, .int .u8 0, .int .u8 0, .int .u8 0, .int .u8 0, .int .u8 0, .int .u8 0, .int .u8 0, .int .u8 0, .string (ByteArray.mk #[]), .string (ByteArray.mk #[]), .int .i64 0, .int .i64 0, .int .u8 0, .int .u8 0, .int .u8 0, .int .u8 0, .int .u8 0, .int .u8 0, .int .u8 0, .int .u8 0, .int .u8 0, .int .u8 0, .int .u8 0, .int .u8 0, .int .u8 0, .int .u8 0, .int .u8 0,
 .int .u8 0, .int .i64 0, .string (ByteArray.mk #[])] (wrM 0), Blk.mk n 45 (arrI .u8 a 16 0) 0] w' W -> R (.returned (.tuple #[.agg #[.int .u8 0, .int .u8 0, .int .u8 0, .int .u8 0, .int .u8 0, .int .u8 0, .int .u8 0, .int .u8 0, .int .u8 0, .int .u8 0, .int .u8 0, .int .u8 0, .int .u8 0, .int .u8 0, .int .u8 0, .int .u8 0, .int .u8 0, .int .u8 0, .int .u8 0, .int .u8 0, .int .u8 0, .int .u8 0, .int .u8 0, .int .u8 0, .int .u8 0, .int .u8 0, .int .u8 0, .int .u8 0, .int .u8 0, .int .u8 0, .int .u8 0, .int .u8 0, .string (ByteArray.mk #[]), .string (ByteArray.mk #[]), .int .i64 0, .int .i64 0, .int .u8 0, .int .u8 0, .int .u8 0, .int .u8 0, .int .u8 0, .int .u8 0, .int .u8 0, .int .u8 0, .int .u8 0, .int .u8 0, .int .u8 0, .int .u8 0, .int .u8 0, .int .u8 0, .int .u8 0, .int .u8 0, .int .i64 0, .string (ByteArray.mk #[])], .int .i64 2])) W) (CallsS Tryz.prog 37
 #[.pointer (some (Addr.mk m 0 none)), .string s, .agg (arrI .u8 a 16 0).toArray] w' fun (e : Ending) (w'_1 : World) => ∃ (x : Bool), e = .returned (.bool x) /\ KeptL [n_1, n] w' w'_1 /\ bsp (!x) (∀ (W : World), Loc w.heap.size [Blk.mk n_1 48 [Value.int .u8 0, .int .u8 0, .int .u8 0, .int .u8 0, .int .u8 0, .int .u8 0, .int .u8 0, .int .u8 0, .int .u8 0, .int .u8 0, .int .u8 0, .int .u8 0, .int .u8 0, .int .u8 0, .int .u8 0, .int .u8 0, .int .u8 0, .int .u8 0, .int .u8 0, .int .u8 0, .int .u8 0, .int .u8 0, .int .u8 0, .int .u8 0, .int .u8 0, .int .u8 0, .int .u8 0, .int .u8 0, .int .u8 0, .int .u8 0, .int .u8 0, .int .u8 0, .string (ByteArray.mk #[]), .string (ByteArray.mk #[]), .int .i64 0, .int .i64 0, .int .u8 0, .int .u8 0, .int .u8 0, .int .u8 0, .int .u8 0, .int .u8 0, .int .u8 0, .int .u8 0, .int .u8 0, .int .u8 0, .int .u8 0, .int .u8 0, .int .u8 0, .int .u8 0, .int .u8 0,
 .int .u8 0, .int .i64 0, .string (ByteArray.mk #[])] (wrM 0), Blk.mk n 45 (arrI .u8 a 16 0) 0] w'_1 W -> R (.returned (.tuple #[.agg #[.int .u8 0, .int .u8 0, .int .u8 0, .int .u8 0, .int .u8 0, .int .u8 0, .int .u8 0, .int .u8 0, .int .u8 0, .int .u8 0, .int .u8 0, .int .u8 0, .int .u8 0, .int .u8 0, .int .u8 0, .int .u8 0, .int .u8 0, .int .u8 0, .int .u8 0, .int .u8 0, .int .u8 0, .int .u8 0, .int .u8 0, .int .u8 0, .int .u8 0, .int .u8 0, .int .u8 0, .int .u8 0, .int .u8 0, .int .u8 0, .int .u8 0, .int .u8 0, .string (ByteArray.mk #[]), .string (ByteArray.mk #[]), .int .i64 0, .int .i64 0, .int .u8 0, .int .u8 0, .int .u8 0, .int .u8 0, .int .u8 0, .int .u8 0, .int .u8 0, .int .u8 0, .int .u8 0, .int .u8 0, .int .u8 0, .int .u8 0, .int .u8 0, .int .u8 0, .int .u8 0, .int .u8 0, .int .i64 0, .string (ByteArray.mk #[])], .int .i64 20])) W) (∃ (I : List Value -> World -> Prop),
 ∃ (m_1 : List Value -> World -> Nat), I [Value.int .i64 0] w'_1 /\ ∀ (x : Int) (w' : World), I [Value.int .i64 x] w' -> Loc w.heap.size [Blk.mk n 45 (arrI .u8 a 16 0) 0] w' w' -> ∃ (p : Option Addr) (n_2 : Nat) (c : Nat), w'.cell? (Addr.mk m (0 + 3) none) = some (.slice p n_2 c) /\ bsp (decide (x < (↑n_2 : Int))) (∃ (p : Option Addr) (n_3 : Nat) (c : Nat), w'.cell? (Addr.mk m (0 + 3) none) = some (.slice p n_3 c) /\ nn true p fun (b o : Nat) => (0 <= x /\ x < (↑n_3 : Int)) /\ ∃ (f : Nat -> Int) (x_1 : ByteArray), ∃ (x_2 : ByteArray) (x_3 : Int), ∃ (x_4 : Int) (f_1 : Nat -> Int), ∃ (x_5 : Int) (x_6 : ByteArray), ∃ (x_7 : Bool) (f_2 : Nat -> Int) (x_8 : Int), AtL w' b (o + x.toNat * 72) (arrI .u8 f 32 0 ++ ([Value.string x_1,
 .string x_2, .int .i64 x_3, .int .i64 x_4] ++ arrI .u8 f_1 16 0 ++ ([Value.int .i64 x_5, .string x_6, .bool x_7] ++ arrI .u8 f_2 16 0 ++ [Value.int .i64 x_8]))) /\ ∀ (n_4 : Nat), ∃ (x_9 : ByteArray), gimp (!x_4 != 0) (∀ (W : World), Loc w.heap.size [Blk.mk n 45 (arrI .u8 a 16 0) 0, Blk.mk n_4 91 (arrI .u8 f 32 0 ++ ([Value.string x_1, .string x_2, .int .i64 x_3, .int .i64 x_4] ++ arrI .u8 f_1 16 0 ++ ([Value.int .i64 x_5, .string x_6, .bool x_7] ++ arrI .u8 f_2 16 0 ++ [Value.int .i64 x_8]))) (wrM 2)] w' W -> W.cell? (Addr.mk n_4 (0 + 32) none) = some (.string x_9)) /\ bsp (x_4 != 0 || !x_9.toList == s.toList) (∀ (W : World), Loc w.heap.size [Blk.mk n 45 (arrI .u8 a 16 0) 0, Blk.mk n_4 91 (arrI .u8 f 32 0 ++ ([Value.string x_1, .string x_2, .int .i64 x_3, .int .i64 x_4] ++ arrI .u8 f_1 16 0 ++ ([Value.int .i64 x_5, .string x_6, .bool x_7] ++ arrI .u8 f_2 16 0 ++ [Value.int .i64 x_8])))
 (wrM 2)] w' W -> I [Value.int .i64 (IntKind.i64.wrap (x + 1))] W /\ m_1 [Value.int .i64 (IntKind.i64.wrap (x + 1))] W < m_1 [Value.int .i64 x] w') (∀ (W : World), Loc w.heap.size [Blk.mk n 45 (arrI .u8 a 16 0) 0, Blk.mk n_4 91 (arrI .u8 f 32 0 ++ ([Value.string x_1, .string x_2, .int .i64 x_3, .int .i64 x_4] ++ arrI .u8 f_1 16 0 ++ ([Value.int .i64 x_5, .string x_6, .bool x_7] ++ arrI .u8 f_2 16 0 ++ [Value.int .i64 x_8]))) (wrM 2)] w' W -> CallsS Tryz.prog 60 #[.agg (arrI .u8 f 32 0 ++ ([Value.string x_1, .string x_2, .int .i64 x_3, .int .i64 x_4] ++ arrI .u8 f_1 16 0 ++ ([Value.int .i64 x_5, .string x_6, .bool x_7] ++ arrI .u8 f_2 16 0 ++ [Value.int .i64 x_8]))).toArray, .int .i64 now] W fun (e : Ending) (w'_2 : World) => ∃ (f_3 : Nat -> Int) (x_10 : Bool), e = .returned (.tuple #[.agg (arrI .u8 f_3 16 0).toArray, .bool x_10]) /\ KeptL [n, n_4] W w'_2 /\ ∀ (n_5 : Nat),
 ∃ (r : Bool), gimp x_10 (EqP Tryz.prog 45 (.agg (arrI .u8 f_3 16 0).toArray) (.agg (arrI .u8 a 16 0).toArray) r) /\ bsp (x_10 && !r) (∀ (W : World), Loc w.heap.size [Blk.mk n 45 (arrI .u8 a 16 0) 0, Blk.mk n_5 45 (arrI .u8 f_3 16 0) (wrM 2), Blk.mk n_4 91 (arrI .u8 f 32 0 ++ ([Value.string x_1, .string x_2, .int .i64 x_3, .int .i64 x_4] ++ arrI .u8 f_1 16 0 ++ ([Value.int .i64 x_5, .string x_6, .bool x_7] ++ arrI .u8 f_2 16 0 ++ [Value.int .i64 x_8]))) 0] w'_2 W -> I [Value.int .i64 (IntKind.i64.wrap (x + 1))] W /\ m_1 [Value.int .i64 (IntKind.i64.wrap (x + 1))] W < m_1 [Value.int .i64 x] w') (∀ (W : World), Loc w.heap.size [Blk.mk n 45 (arrI .u8 a 16 0) 0, Blk.mk n_5 45 (arrI .u8 f_3 16 0) (wrM 2), Blk.mk n_4 91 (arrI .u8 f 32 0 ++ ([Value.string x_1, .string x_2, .int .i64 x_3, .int .i64 x_4] ++ arrI .u8 f_1 16 0 ++ ([Value.int .i64 x_5,
 .string x_6, .bool x_7] ++ arrI .u8 f_2 16 0 ++ [Value.int .i64 x_8]))) 0] w'_2 W -> ∃ (S : World -> Prop), S W /\ ∃ (p : Option Addr) (n_6 : Nat) (c : Nat), (∀ (w' : World), S w' -> w'.cell? (Addr.mk m (0 + 3) none) = some (.slice p n_6 c)) /\ ∃ (p_1 : Option Addr) (n_7 : Nat) (c : Nat), (∀ (w' : World), S w' -> w'.cell? (Addr.mk m (0 + 3) none) = some (.slice p_1 n_7 c)) /\ ∃ (p_2 : Option Addr) (n_8 : Nat) (c : Nat), (∀ (w' : World), S w' -> w'.cell? (Addr.mk m (0 + 3) none) = some (.slice p_2 n_8 c)) /\ ∃ (f_4 : Nat -> Int), (∀ (w' : World), S w' -> AtL w' n 0 (arrI .u8 f_4 16 0)) /\ nn true p fun (b o : Nat) => (0 <= x /\ x < (↑n_6 : Int)) /\ ((∃ (u : Value), W.cell? (Addr.mk b (o + x.toNat * 72 + 54) none) = some u) /\ W.frozen? (Addr.mk b (o + x.toNat * 72 + 54) none) = false) /\ ∀ (w1 : World), PutB W b (o + x.toNat * 72 + 54) [Value.bool true] w1 -> S w1 /\
 nn true p_1 fun (b o : Nat) => (0 <= x /\ x < (↑n_7 : Int)) /\ WrL w1 b (o + x.toNat * 72 + 55) 16 /\ ∀ (w1_1 : World), PutB w1 b (o + x.toNat * 72 + 55) (arrI .u8 f_4 16 0) w1_1 -> nn true p_2 fun (b o : Nat) => (0 <= x /\ x < (↑n_8 : Int)) /\ ((∃ (u : Value), w1_1.cell? (Addr.mk b (o + x.toNat * 72 + 71) none) = some u) /\ w1_1.frozen? (Addr.mk b (o + x.toNat * 72 + 71) none) = false) /\ ∀ (w1 : World), PutB w1_1 b (o + x.toNat * 72 + 71) [Value.int .i64 now] w1 -> KeptL [n, n_5, n_4] W w1 /\ WrL w1 n_1 0 54 /\ ∀ (w1_2 : World), PutB w1 n_1 0 (arrI .u8 f 32 0 ++ ([Value.string x_1, .string x_2, .int .i64 x_3, .int .i64 x_4] ++ arrI .u8 f_1 16 0 ++ [Value.int .i64 x_5, .string x_6])) w1_2 -> KeptL [n, n_5, n_4] w1 w1_2 /\ ∃ (f : Nat -> Int) (x : ByteArray), ∃ (x_11 : ByteArray) (x_12 : Int), ∃ (x_13 : Int) (f_5 : Nat -> Int), ∃ (x_14 : Int) (x_15 : ByteArray),
 AtL w1_2 n_1 0 (arrI .u8 f 32 0 ++ ([Value.string x, .string x_11, .int .i64 x_12, .int .i64 x_13] ++ arrI .u8 f_5 16 0 ++ [Value.int .i64 x_14, .string x_15])) /\ R (.returned (.tuple #[.agg (arrI .u8 f 32 0 ++ ([Value.string x, .string x_11, .int .i64 x_12, .int .i64 x_13] ++ arrI .u8 f_5 16 0 ++ [Value.int .i64 x_14, .string x_15])).toArray, .int .i64 0])) w1_2))) (WrL w' n_1 0 54 /\ ∀ (w1 : World), PutB w' n_1 0 [Value.int .u8 0, .int .u8 0, .int .u8 0, .int .u8 0, .int .u8 0, .int .u8 0, .int .u8 0, .int .u8 0, .int .u8 0, .int .u8 0, .int .u8 0, .int .u8 0, .int .u8 0, .int .u8 0, .int .u8 0, .int .u8 0, .int .u8 0, .int .u8 0, .int .u8 0, .int .u8 0, .int .u8 0, .int .u8 0, .int .u8 0, .int .u8 0, .int .u8 0, .int .u8 0, .int .u8 0, .int .u8 0, .int .u8 0, .int .u8 0, .int .u8 0, .int .u8 0, .string (ByteArray.mk #[]), .string (ByteArray.mk #[]), .int .i64 0, .int .i64 0,
 .int .u8 0, .int .u8 0, .int .u8 0, .int .u8 0, .int .u8 0, .int .u8 0, .int .u8 0, .int .u8 0, .int .u8 0, .int .u8 0, .int .u8 0, .int .u8 0, .int .u8 0, .int .u8 0, .int .u8 0, .int .u8 0, .int .i64 0, .string (ByteArray.mk #[])] w1 -> KeptL [n] w' w1 /\ ∃ (f : Nat -> Int) (x : ByteArray), ∃ (x_1 : ByteArray) (x_2 : Int), ∃ (x_3 : Int) (f_1 : Nat -> Int), ∃ (x_4 : Int) (x_5 : ByteArray), AtL w1 n_1 0 (arrI .u8 f 32 0 ++ ([Value.string x, .string x_1, .int .i64 x_2, .int .i64 x_3] ++ arrI .u8 f_1 16 0 ++ [Value.int .i64 x_4, .string x_5])) /\ R (.returned (.tuple #[.agg (arrI .u8 f 32 0 ++ ([Value.string x, .string x_1, .int .i64 x_2, .int .i64 x_3] ++ arrI .u8 f_1 16 0 ++ [Value.int .i64 x_4, .string x_5])).toArray, .int .i64 8])) w1)))
theorem vc_xclaim (m : Nat) (s : ByteArray) (a : Nat -> Int) (now : Int) (w : World) (R : Ending -> World -> Prop) (h : VC_xclaim m s a now w R) : Calls Tryz.prog 62 ([Value.pointer (some { block := m, off := 0 }), .string s, .agg (arrI .u8 a 16 0).toArray, .int .i64 now] : List Value).toArray w R :=
 calls_of_exec2' (loops := [(6, [(10, Ck.int .i64)])]) (tails := [(12, 19)]) (joins := []) (boxes := []) (rngs := []) (c := Tryz.f62.body.getD .skip) pur1_ok Tryz.func62 (by kernel_rfl) (by kernel_rfl) h
def VC_xrelease (m : Nat) (i : Nat -> Int) (s : ByteArray) (a : Nat -> Int) (now : Int) (w : World) (R : Ending -> World -> Prop) : Prop := ∀ (n n_1 : Nat) (W : World), Loc w.heap.size [Blk.mk n_1 45 (arrI .u8 a 16 0) 2, Blk.mk n 32 (arrI .u8 i 32 0) 2] w W -> CallsS Tryz.prog 36 #[.int .i64 now] W fun (e : Ending) (w' : World) => ∃ (x : Bool), e = .returned (.bool x) /\ KeptL [n_1, n] W w' /\ bsp (!x) (R (.returned (.int .i64 2)) w') (CallsS Tryz.prog 56 #[.pointer (some (Addr.mk m 0 none)), .agg (arrI .u8 i 32 0).toArray, .string s] w' fun (e : Ending) (w'_1 : World) => ∃ (x : Int), e = .returned (.int .i64 x) /\ KeptL [n_1, n] w' w'_1 /\ ∃ (p : Option Addr) (n_2 : Nat) (c : Nat), gimp (!decide (x < 0)) (w'_1.cell? (Addr.mk m (0 + 3) none) = some (.slice p n_2 c)) /\ nn (!decide (x < 0)) p fun (b o : Nat) => gimp (!decide (x < 0)) (0 <= x /\ x < (↑n_2 : Int)) /\ ∃ (x_1 : Int),
 gimp (!decide (x < 0)) (w'_1.cell? (Addr.mk b (o + x.toNat * 72 + 35) none) = some (.int .i64 x_1)) /\ bsp (decide (x < 0) || x_1 != 0) (R (.returned (.int .i64 8)) w'_1) (∃ (p : Option Addr) (n_3 : Nat) (c : Nat), w'_1.cell? (Addr.mk m (0 + 3) none) = some (.slice p n_3 c) /\ nn true p fun (b o : Nat) => (0 <= x /\ x < (↑n_3 : Int)) /\ ∃ (f : Nat -> Int) (x_2 : ByteArray), ∃ (x_3 : ByteArray) (x_4 : Int), ∃ (x_5 : Int) (f_1 : Nat -> Int), ∃ (x_6 : Int) (x_7 : ByteArray), ∃ (x_8 : Bool) (f_2 : Nat -> Int) (x_9 : Int), AtL w'_1 b (o + x.toNat * 72) (arrI .u8 f 32 0 ++ ([Value.string x_2, .string x_3, .int .i64 x_4, .int .i64 x_5] ++ arrI .u8 f_1 16 0 ++ ([Value.int .i64 x_6, .string x_7, .bool x_8] ++ arrI .u8 f_2 16 0 ++ [Value.int .i64 x_9]))) /\ CallsS Tryz.prog 60 #[.agg (arrI .u8 f 32 0 ++ ([Value.string x_2,
 .string x_3, .int .i64 x_4, .int .i64 x_5] ++ arrI .u8 f_1 16 0 ++ ([Value.int .i64 x_6, .string x_7, .bool x_8] ++ arrI .u8 f_2 16 0 ++ [Value.int .i64 x_9]))).toArray, .int .i64 now] w'_1 fun (e : Ending) (w' : World) => ∃ (f : Nat -> Int) (x_10 : Bool), e = .returned (.tuple #[.agg (arrI .u8 f 16 0).toArray, .bool x_10]) /\ KeptL [n_1, n] w'_1 w' /\ ∀ (n_4 : Nat), ∃ (r : Bool), gimp (!!x_10) (EqP Tryz.prog 45 (.agg (arrI .u8 f 16 0).toArray) (.agg (arrI .u8 a 16 0).toArray) r) /\ bsp (!x_10 || !r) (∀ (W : World), Loc w.heap.size [Blk.mk n_4 45 (arrI .u8 f 16 0) (wrM 2), Blk.mk n_1 45 (arrI .u8 a 16 0) 0, Blk.mk n 32 (arrI .u8 i 32 0) 0] w' W -> R (.returned (.int .i64 10)) W) (∀ (W : World), Loc w.heap.size [Blk.mk n_4 45 (arrI .u8 f 16 0) (wrM 2), Blk.mk n_1 45 (arrI .u8 a 16 0) 0, Blk.mk n 32 (arrI .u8 i 32 0) 0] w' W -> ∃ (S : World -> Prop), S W /\ ∃ (p : Option Addr),
 ∃ (n_5 : Nat) (c : Nat), (∀ (w' : World), S w' -> w'.cell? (Addr.mk m (0 + 3) none) = some (.slice p n_5 c)) /\ ∃ (p_1 : Option Addr) (n_6 : Nat) (c : Nat), (∀ (w' : World), S w' -> w'.cell? (Addr.mk m (0 + 3) none) = some (.slice p_1 n_6 c)) /\ ∃ (p_2 : Option Addr) (n_7 : Nat) (c : Nat), (∀ (w' : World), S w' -> w'.cell? (Addr.mk m (0 + 3) none) = some (.slice p_2 n_7 c)) /\ nn true p fun (b o : Nat) => (0 <= x /\ x < (↑n_5 : Int)) /\ ((∃ (u : Value), W.cell? (Addr.mk b (o + x.toNat * 72 + 54) none) = some u) /\ W.frozen? (Addr.mk b (o + x.toNat * 72 + 54) none) = false) /\ ∀ (w1 : World), PutB W b (o + x.toNat * 72 + 54) [Value.bool false] w1 -> nn true p_1 fun (b o : Nat) => (0 <= x /\ x < (↑n_6 : Int)) /\ WrL w1 b (o + x.toNat * 72 + 55) 16 /\ ∀ (w1_1 : World), PutB w1 b (o + x.toNat * 72 + 55) [Value.int .u8 0, .int .u8 0, .int .u8 0, .int .u8 0, .int .u8 0,
 .int .u8 0, .int .u8 0, .int .u8 0, .int .u8 0, .int .u8 0, .int .u8 0, .int .u8 0, .int .u8 0, .int .u8 0, .int .u8 0, .int .u8 0] w1_1 -> nn true p_2 fun (b o : Nat) => (0 <= x /\ x < (↑n_7 : Int)) /\ ((∃ (u : Value), w1_1.cell? (Addr.mk b (o + x.toNat * 72 + 71) none) = some u) /\ w1_1.frozen? (Addr.mk b (o + x.toNat * 72 + 71) none) = false) /\ ∀ (w1 : World), PutB w1_1 b (o + x.toNat * 72 + 71) [Value.int .i64 0] w1 -> KeptL [n_4, n_1, n] W w1 /\ R (.returned (.int .i64 0)) w1)))
theorem vc_xrelease (m : Nat) (i : Nat -> Int) (s : ByteArray) (a : Nat -> Int) (now : Int) (w : World) (R : Ending -> World -> Prop) (h : VC_xrelease m i s a now w R) : Calls Tryz.prog 63 ([Value.pointer (some { block := m, off := 0 }), .agg (arrI .u8 i 32 0).toArray, .string s, .agg (arrI .u8 a 16 0).toArray, .int .i64 now] : List Value).toArray w R :=
 calls_of_exec2' (loops := []) (tails := [(9, 18)]) (joins := []) (boxes := []) (rngs := []) (c := Tryz.f63.body.getD .skip) pur1_ok Tryz.func63 (by kernel_rfl) (by kernel_rfl) h
def VC_xdecide (m : Nat) (i : Nat -> Int) (s : ByteArray) (a : Nat -> Int) (st : Int) (rs : ByteArray) (now : Int) (w : World) (R : Ending -> World -> Prop) : Prop := ∀ (n n_1 : Nat) (W : World), Loc w.heap.size [Blk.mk n_1 45 (arrI .u8 a 16 0) 2, Blk.mk n 32 (arrI .u8 i 32 0) 2] w W -> CallsS Tryz.prog 36 #[.int .i64 now] W fun (e : Ending) (w' : World) => ∃ (x : Bool), e = .returned (.bool x) /\ KeptL [n_1, n] W w' /\ bsp (!x) (R (.returned (.int .i64 2)) w') (bsp (st == 2) (bsp (decide ((↑rs.size : Int) > 200)) (R (.returned (.int .i64 5)) w') (CallsS Tryz.prog 58 #[.string rs] w' fun (e : Ending) (w'_1 : World) => ∃ (p : Option Addr) (n_2 : Nat), ∃ (c : Nat) (p_1 : Option Addr), ∃ (n_3 : Nat) (c_1 : Nat), ∃ (x : Int) (x_1 : Int), e = .returned (.tuple #[.slice p n_2 c, .slice p_1 n_3 c_1, .int .i64 x, .int .i64 x_1]) /\ KeptL [n_1, n] w' w'_1 /\
 ∃ (I : List Value -> World -> Prop) (m_1 : List Value -> World -> Nat), I [Value.int .i64 0] w'_1 /\ ∀ (x : Int) (w' : World), I [Value.int .i64 x] w' -> Loc w.heap.size [Blk.mk n_1 45 (arrI .u8 a 16 0) 0, Blk.mk n 32 (arrI .u8 i 32 0) 0] w' w' -> bsp (decide (x < (↑n_2 : Int))) (nn true p fun (b o : Nat) => (0 <= x /\ x < (↑n_2 : Int)) /\ ∃ (x_2 : Int), w'.cell? (Addr.mk b (o + x.toNat) none) = some (.int .i64 x_2) /\ CallsS Tryz.prog 59 #[.int .i64 x_2] w' fun (e : Ending) (w'_2 : World) => ∃ (x_3 : Bool), e = .returned (.bool x_3) /\ KeptL [n_1, n] w' w'_2 /\ bsp x_3 (R (.returned (.int .i64 6)) w'_2) (I [Value.int .i64 (IntKind.i64.wrap (x + 1))] w'_2 /\ m_1 [Value.int .i64 (IntKind.i64.wrap (x + 1))] w'_2 < m_1 [Value.int .i64 x] w')) (bsp (x_1 != 0) (R (.returned (.int .i64 6)) w') (CallsS Tryz.prog 37 #[.pointer (some (Addr.mk m 0 none)), .string s, .agg
 (arrI .u8 a 16 0).toArray] w' fun (e : Ending) (w'_2 : World) => ∃ (x : Bool), e = .returned (.bool x) /\ KeptL [n_1, n] w' w'_2 /\ bsp (!x) (R (.returned (.int .i64 20)) w'_2) (CallsS Tryz.prog 56 #[.pointer (some (Addr.mk m 0 none)), .agg (arrI .u8 i 32 0).toArray, .string s] w'_2 fun (e : Ending) (w' : World) => ∃ (x : Int), e = .returned (.int .i64 x) /\ KeptL [n_1, n] w'_2 w' /\ bsp (decide (x < 0)) (R (.returned (.int .i64 8)) w') (∃ (p : Option Addr) (n_4 : Nat) (c : Nat), w'.cell? (Addr.mk m (0 + 3) none) = some (.slice p n_4 c) /\ nn true p fun (b o : Nat) => (0 <= x /\ x < (↑n_4 : Int)) /\ ∃ (x_2 : Int), w'.cell? (Addr.mk b (o + x.toNat * 72 + 35) none) = some (.int .i64 x_2) /\ bsp (x_2 != 0) (R (.returned (.int .i64 10)) w') (∃ (p : Option Addr) (n_5 : Nat) (c : Nat), w'.cell? (Addr.mk m (0 + 3) none) = some (.slice p n_5 c) /\ nn true p fun (b o : Nat) =>
 (0 <= x /\ x < (↑n_5 : Int)) /\ ∃ (f : Nat -> Int) (x_3 : ByteArray), ∃ (x_4 : ByteArray) (x_5 : Int), ∃ (x_6 : Int) (f_1 : Nat -> Int), ∃ (x_7 : Int) (x_8 : ByteArray), ∃ (x_9 : Bool) (f_2 : Nat -> Int) (x_10 : Int), AtL w' b (o + x.toNat * 72) (arrI .u8 f 32 0 ++ ([Value.string x_3, .string x_4, .int .i64 x_5, .int .i64 x_6] ++ arrI .u8 f_1 16 0 ++ ([Value.int .i64 x_7, .string x_8, .bool x_9] ++ arrI .u8 f_2 16 0 ++ [Value.int .i64 x_10]))) /\ CallsS Tryz.prog 60 #[.agg (arrI .u8 f 32 0 ++ ([Value.string x_3, .string x_4, .int .i64 x_5, .int .i64 x_6] ++ arrI .u8 f_1 16 0 ++ ([Value.int .i64 x_7, .string x_8, .bool x_9] ++ arrI .u8 f_2 16 0 ++ [Value.int .i64 x_10]))).toArray, .int .i64 now] w' fun (e : Ending) (w'_3 : World) => ∃ (f : Nat -> Int) (x_11 : Bool), e = .returned (.tuple #[.agg (arrI .u8 f 16 0).toArray, .bool x_11]) /\ KeptL [n_1, n] w' w'_3 /\
 ∀ (n_6 : Nat), ∃ (r : Bool), gimp x_11 (EqP Tryz.prog 45 (.agg (arrI .u8 f 16 0).toArray) (.agg (arrI .u8 a 16 0).toArray) r) /\ bsp (x_11 && !r) (∀ (W : World), Loc w.heap.size [Blk.mk n_6 45 (arrI .u8 f 16 0) (wrM 2), Blk.mk n_1 45 (arrI .u8 a 16 0) 0, Blk.mk n 32 (arrI .u8 i 32 0) 0] w'_3 W -> R (.returned (.int .i64 25)) W) (∀ (W : World), Loc w.heap.size [Blk.mk n_6 45 (arrI .u8 f 16 0) (wrM 2), Blk.mk n_1 45 (arrI .u8 a 16 0) 0, Blk.mk n 32 (arrI .u8 i 32 0) 0] w'_3 W -> CallsS Tryz.prog 61 #[.pointer (some (Addr.mk m 0 none)), .int .i64 x, .int .i64 st, .agg (arrI .u8 a 16 0).toArray, .string rs, .int .i64 now] W fun (e : Ending) (w' : World) => e = .returned (.tuple #[]) /\ KeptL [n_6, n_1, n] W w' /\ R (.returned (.int .i64 0)) w')))))))) (CallsS Tryz.prog 37 #[.pointer (some (Addr.mk m 0 none)), .string s, .agg (arrI .u8 a 16 0).toArray] w' fun (e : Ending) (w'_1 : World) =>
 ∃ (x : Bool), e = .returned (.bool x) /\ KeptL [n_1, n] w' w'_1 /\ bsp (!x) (R (.returned (.int .i64 20)) w'_1) (CallsS Tryz.prog 56 #[.pointer (some (Addr.mk m 0 none)), .agg (arrI .u8 i 32 0).toArray, .string s] w'_1 fun (e : Ending) (w' : World) => ∃ (x : Int), e = .returned (.int .i64 x) /\ KeptL [n_1, n] w'_1 w' /\ bsp (decide (x < 0)) (R (.returned (.int .i64 8)) w') (∃ (p : Option Addr) (n_2 : Nat) (c : Nat), w'.cell? (Addr.mk m (0 + 3) none) = some (.slice p n_2 c) /\ nn true p fun (b o : Nat) => (0 <= x /\ x < (↑n_2 : Int)) /\ ∃ (x_1 : Int), w'.cell? (Addr.mk b (o + x.toNat * 72 + 35) none) = some (.int .i64 x_1) /\ bsp (x_1 != 0) (R (.returned (.int .i64 10)) w') (∃ (p : Option Addr) (n_3 : Nat) (c : Nat), w'.cell? (Addr.mk m (0 + 3) none) = some (.slice p n_3 c) /\ nn true p fun (b o : Nat) => (0 <= x /\ x < (↑n_3 : Int)) /\ ∃ (f : Nat -> Int),
 ∃ (x_2 : ByteArray) (x_3 : ByteArray), ∃ (x_4 : Int) (x_5 : Int), ∃ (f_1 : Nat -> Int) (x_6 : Int), ∃ (x_7 : ByteArray) (x_8 : Bool), ∃ (f_2 : Nat -> Int) (x_9 : Int), AtL w' b (o + x.toNat * 72) (arrI .u8 f 32 0 ++ ([Value.string x_2, .string x_3, .int .i64 x_4, .int .i64 x_5] ++ arrI .u8 f_1 16 0 ++ ([Value.int .i64 x_6, .string x_7, .bool x_8] ++ arrI .u8 f_2 16 0 ++ [Value.int .i64 x_9]))) /\ CallsS Tryz.prog 60 #[.agg (arrI .u8 f 32 0 ++ ([Value.string x_2, .string x_3, .int .i64 x_4, .int .i64 x_5] ++ arrI .u8 f_1 16 0 ++ ([Value.int .i64 x_6, .string x_7, .bool x_8] ++ arrI .u8 f_2 16 0 ++ [Value.int .i64 x_9]))).toArray, .int .i64 now] w' fun (e : Ending) (w'_2 : World) => ∃ (f : Nat -> Int) (x_10 : Bool), e = .returned (.tuple #[.agg (arrI .u8 f 16 0).toArray, .bool x_10]) /\ KeptL [n_1, n] w' w'_2 /\ ∀ (n_4 : Nat), ∃ (r : Bool), gimp x_10 (EqP Tryz.prog 45
 (.agg (arrI .u8 f 16 0).toArray) (.agg (arrI .u8 a 16 0).toArray) r) /\ bsp (x_10 && !r) (∀ (W : World), Loc w.heap.size [Blk.mk n_4 45 (arrI .u8 f 16 0) (wrM 2), Blk.mk n_1 45 (arrI .u8 a 16 0) 0, Blk.mk n 32 (arrI .u8 i 32 0) 0] w'_2 W -> R (.returned (.int .i64 25)) W) (∀ (W : World), Loc w.heap.size [Blk.mk n_4 45 (arrI .u8 f 16 0) (wrM 2), Blk.mk n_1 45 (arrI .u8 a 16 0) 0, Blk.mk n 32 (arrI .u8 i 32 0) 0] w'_2 W -> CallsS Tryz.prog 61 #[.pointer (some (Addr.mk m 0 none)), .int .i64 x, .int .i64 st, .agg (arrI .u8 a 16 0).toArray, .string rs, .int .i64 now] W fun (e : Ending) (w' : World) => e = .returned (.tuple #[]) /\ KeptL [n_4, n_1, n] W w' /\ R (.returned (.int .i64 0)) w'))))))
theorem vc_xdecide (m : Nat) (i : Nat -> Int) (s : ByteArray) (a : Nat -> Int) (st : Int) (rs : ByteArray) (now : Int) (w : World) (R : Ending -> World -> Prop) (h : VC_xdecide m i s a st rs now w R) : Calls Tryz.prog 27 ([Value.pointer (some { block := m, off := 0 }), .agg (arrI .u8 i 32 0).toArray, .string s, .agg (arrI .u8 a 16 0).toArray, .int .i64 st, .string rs, .int .i64 now] : List Value).toArray w R :=
 calls_of_exec2' (loops := [(8, [(19, Ck.int .i64)])]) (tails := []) (joins := []) (boxes := []) (rngs := []) (c := Tryz.f27.body.getD .skip) pur1_ok Tryz.func27 (by kernel_rfl) (by kernel_rfl) h
def VC_xend (m : Nat) (i : Int) (st : Int) (a : Nat -> Int) (rs : ByteArray) (now : Int) (w : World) (R : Ending -> World -> Prop) : Prop := ∀ (n : Nat), ∃ (p : Option Addr) (n_1 : Nat) (c : Nat), (∀ (W : World), Loc w.heap.size [Blk.mk n 45 (arrI .u8 a 16 0) 2] w W -> W.cell? (Addr.mk m (0 + 3) none) = some (.slice p n_1 c)) /\ nn true p fun (b o : Nat) => (0 <= i /\ i < (↑n_1 : Int)) /\ ∃ (f : Nat -> Int) (x : ByteArray), ∃ (x_1 : ByteArray) (x_2 : Int), ∃ (x_3 : Int) (f_1 : Nat -> Int), ∃ (x_4 : Int) (x_5 : ByteArray), (∀ (W : World), Loc w.heap.size [Blk.mk n 45 (arrI .u8 a 16 0) 2] w W -> AtL W b (o + i.toNat * 72) (arrI .u8 f 32 0 ++ ([Value.string x, .string x_1, .int .i64 x_2, .int .i64 x_3] ++ arrI .u8 f_1 16 0 ++ [Value.int .i64 x_4, .string x_5]))) /\ ∀ (n_2 : Nat) (W : World), Loc w.heap.size [Blk.mk n_2 48 (arrI .u8 f 32 0 ++ ([Value.string x, .string x_1,
 .int .i64 x_2, .int .i64 x_3] ++ arrI .u8 f_1 16 0 ++ [Value.int .i64 x_4, .string x_5])) (wrM 2), Blk.mk n 45 (arrI .u8 a 16 0) 2] w W -> ∃ (S : World -> Prop), S W /\ ∃ (f : Nat -> Int), (∀ (w' : World), S w' -> AtL w' n 0 (arrI .u8 f 16 0)) /\ ((∃ (u : Value), W.cell? (Addr.mk n_2 (0 + 35) none) = some u) /\ W.frozen? (Addr.mk n_2 (0 + 35) none) = false) /\ ∀ (w1 : World), PutB W n_2 (0 + 35) [Value.int .i64 st] w1 -> S w1 /\ WrL w1 n_2 (0 + 36) 16 /\ ∀ (w1_1 : World), PutB w1 n_2 (0 + 36) (arrI .u8 f 16 0) w1_1 -> ((∃ (u : Value), w1_1.cell? (Addr.mk n_2 (0 + 52) none) = some u) /\ w1_1.frozen? (Addr.mk n_2 (0 + 52) none) = false) /\ ∀ (w1 : World), PutB w1_1 n_2 (0 + 52) [Value.int .i64 now] w1 -> ((∃ (u : Value), w1.cell? (Addr.mk n_2 (0 + 53) none) = some u) /\ w1.frozen? (Addr.mk n_2 (0 + 53) none) = false) /\ ∀ (w1_2 : World), PutB w1 n_2 (0 + 53) [Value.string rs] w1_2 ->
 KeptL [n] W w1_2 /\ ∃ (p : Option Addr) (n_3 : Nat) (c : Nat), (∀ (W : World), Loc w.heap.size [Blk.mk n 45 (arrI .u8 a 16 0) 0] w1_2 W -> W.cell? (Addr.mk m (0 + 3) none) = some (.slice p n_3 c)) /\ ∃ (f : Nat -> Int) (x : ByteArray), ∃ (x_6 : ByteArray) (x_7 : Int), ∃ (x_8 : Int) (f_2 : Nat -> Int), ∃ (x_9 : Int) (x_10 : ByteArray), (∀ (W : World), Loc w.heap.size [Blk.mk n 45 (arrI .u8 a 16 0) 0] w1_2 W -> AtL W n_2 0 (arrI .u8 f 32 0 ++ ([Value.string x, .string x_6, .int .i64 x_7, .int .i64 x_8] ++ arrI .u8 f_2 16 0 ++ [Value.int .i64 x_9, .string x_10]))) /\ nn true p fun (b o : Nat) => (0 <= i /\ i < (↑n_3 : Int)) /\ ∀ (W : World), Loc w.heap.size [Blk.mk n 45 (arrI .u8 a 16 0) 0] w1_2 W -> WrL W b (o + i.toNat * 72) 72 /\ ∀ (w1 : World), PutB W b (o + i.toNat * 72) (arrI .u8 f 32 0 ++ ([Value.string x, .string x_6, .int .i64 x_7,
 .int .i64 x_8] ++ arrI .u8 f_2 16 0 ++ [Value.int .i64 x_9, .string x_10, .bool false, .int .u8 0, .int .u8 0, .int .u8 0, .int .u8 0, .int .u8 0, .int .u8 0, .int .u8 0, .int .u8 0, .int .u8 0, .int .u8 0, .int .u8 0, .int .u8 0, .int .u8 0, .int .u8 0, .int .u8 0, .int .u8 0, .int .i64 0])) w1 -> KeptL [n] W w1 /\ R (.returned (.tuple #[])) w1
theorem vc_xend (m : Nat) (i : Int) (st : Int) (a : Nat -> Int) (rs : ByteArray) (now : Int) (w : World) (R : Ending -> World -> Prop) (h : VC_xend m i st a rs now w R) : Calls Tryz.prog 61 ([Value.pointer (some { block := m, off := 0 }), .int .i64 i, .int .i64 st, .agg (arrI .u8 a 16 0).toArray, .string rs, .int .i64 now] : List Value).toArray w R :=
 calls_of_exec2' (loops := []) (tails := [(2, 5), (3, 8)]) (joins := []) (boxes := []) (rngs := []) (c := Tryz.f61.body.getD .skip) pur1_ok Tryz.func61 (by kernel_rfl) (by kernel_rfl) h
def VC_xlapse (m : Nat) (now : Int) (w : World) (R : Ending -> World -> Prop) : Prop := ∃ (I : List Value -> World -> Prop) (m_1 : List Value -> World -> Nat), I [Value.int .i64 0, .slice none 0 0] w /\ ∀ (x : Int) (p : Option Addr) (n c : Nat) (w' : World), I [Value.int .i64 x, .slice p n c] w' -> ∃ (p_1 : Option Addr) (n_1 : Nat) (c_1 : Nat), w'.cell? (Addr.mk m (0 + 3) none) = some (.slice p_1 n_1 c_1) /\ bsp (decide (x < (↑n_1 : Int))) (CallsS Tryz.prog 36 #[.int .i64 now] w' fun (e : Ending) (w'_1 : World) => ∃ (x_1 : Bool), e = .returned (.bool x_1) /\ KeptL [] w' w'_1 /\ bsp (true && x_1) (∃ (p_2 : Option Addr) (n_2 : Nat) (c_2 : Nat), (∀ (W : World), Loc w.heap.size [] w'_1 W -> W.cell? (Addr.mk m (0 + 3) none) = some (.slice p_2 n_2 c_2)) /\ nn true p_2 fun (b o : Nat) => (0 <= x /\ x < (↑n_2 : Int)) /\ ∃ (x_2 : Int), (∀ (W : World), Loc w.heap.size [] w'_1 W ->
 W.cell? (Addr.mk b (o + x.toNat * 72 + 35) none) = some (.int .i64 x_2)) /\ ∃ (p_3 : Option Addr) (n_3 : Nat) (c_3 : Nat), gimp (x_2 == 0) (∀ (W : World), Loc w.heap.size [] w'_1 W -> W.cell? (Addr.mk m (0 + 3) none) = some (.slice p_3 n_3 c_3)) /\ nn (x_2 == 0) p_3 fun (b o : Nat) => gimp (x_2 == 0) (0 <= x /\ x < (↑n_3 : Int)) /\ ∃ (x_3 : Int), gimp (x_2 == 0) (∀ (W : World), Loc w.heap.size [] w'_1 W -> W.cell? (Addr.mk b (o + x.toNat * 72 + 34) none) = some (.int .i64 x_3)) /\ ∃ (x_4 : Int), gimp (x_2 == 0) (∀ (W : World), Loc w.heap.size [] w'_1 W -> W.cell? (Addr.mk m (0 + 1) none) = some (.int .i64 x_4)) /\ bsp (x_2 == 0 && decide (x_3 <= IntKind.i64.wrap (now - IntKind.i64.wrap (x_4 * 1440)))) (∀ (W : World), Loc w.heap.size [] w'_1 W -> CallsS Tryz.prog 61 #[.pointer (some (Addr.mk m 0 none)), .int .i64 x, .int .i64 3, .agg #[.int .u8 0, .int .u8 0, .int .u8 0,
 .int .u8 0, .int .u8 0, .int .u8 0, .int .u8 0, .int .u8 0, .int .u8 0, .int .u8 0, .int .u8 0, .int .u8 0, .int .u8 0, .int .u8 0, .int .u8 0, .int .u8 0], .string (ByteArray.mk #[]), .int .i64 now] W fun (e : Ending) (w'_2 : World) => e = .returned (.tuple #[]) /\ KeptL [] W w'_2 /\ ∃ (p_4 : Option Addr) (n_4 : Nat) (c_4 : Nat), w'_2.cell? (Addr.mk m (0 + 3) none) = some (.slice p_4 n_4 c_4) /\ nn true p_4 fun (b o : Nat) => (0 <= x /\ x < (↑n_4 : Int)) /\ ∃ (f : Nat -> Int) (x_5 : ByteArray), ∃ (x_6 : ByteArray) (x_7 : Int), ∃ (x_8 : Int) (f_1 : Nat -> Int), ∃ (x_9 : Int) (x_10 : ByteArray), AtL w'_2 b (o + x.toNat * 72) (arrI .u8 f 32 0 ++ ([Value.string x_5, .string x_6, .int .i64 x_7, .int .i64 x_8] ++ arrI .u8 f_1 16 0 ++ [Value.int .i64 x_9, .string x_10])) /\ ∀ (n_5 : Nat) (W : World), Loc w.heap.size [Blk.mk n_5 48
 (arrI .u8 f 32 0 ++ ([Value.string x_5, .string x_6, .int .i64 x_7, .int .i64 x_8] ++ arrI .u8 f_1 16 0 ++ [Value.int .i64 x_9, .string x_10])) 2] w'_2 W -> ∃ (base : Nat) (xs : List Value), W.ownsRow base 48 54 (.slice p n c) n xs /\ n + 1 <= 9223372036854775807 /\ (n + 1) * 120 <= 140737488355328 /\ base <= W.heap.size /\ ∀ (p' : Option Addr) (c' : Nat) (w'_3 : World), w'_3.ownsRow base 48 54 (.slice p' (n + 1) c') (n + 1) (xs ++ (arrI .u8 f 32 0 ++ ([Value.string x_5, .string x_6, .int .i64 x_7, .int .i64 x_8] ++ arrI .u8 f_1 16 0 ++ [Value.int .i64 x_9, .string x_10]))) -> W.grownBy w'_3 (Value.slice p n c).ownBlock -> AppL W p n c 1 p' c' -> KeptL [] W w'_3 /\ I [Value.int .i64 (IntKind.i64.wrap (x + 1)), .slice p' (n + 1) c'] w'_3 /\ m_1 [Value.int .i64 (IntKind.i64.wrap (x + 1)), .slice p' (n + 1) c'] w'_3 < m_1 [Value.int .i64 x, .slice p n c] w') (∀ (W : World),
 Loc w.heap.size [] w'_1 W -> I [Value.int .i64 (IntKind.i64.wrap (x + 1)), .slice p n c] W /\ m_1 [Value.int .i64 (IntKind.i64.wrap (x + 1)), .slice p n c] W < m_1 [Value.int .i64 x, .slice p n c] w')) (R (.returned (.slice p n c)) w'_1)) (KeptL [] w' w' /\ R (.returned (.slice p n c)) w')
theorem vc_xlapse (m : Nat) (now : Int) (w : World) (R : Ending -> World -> Prop) (h : VC_xlapse m now w R) : Calls Tryz.prog 35 ([Value.pointer (some { block := m, off := 0 }), .int .i64 now] : List Value).toArray w R :=
 calls_of_exec2' (loops := [(3, [(6, Ck.int .i64), (5, Ck.slice)])]) (tails := []) (joins := []) (boxes := []) (rngs := []) (c := Tryz.f35.body.getD .skip) pur1_ok Tryz.func35 (by kernel_rfl) (by kernel_rfl) h
def VC_xforget (m : Nat) (bf : Int) (w : World) (R : Ending -> World -> Prop) : Prop := ∃ (I : List Value -> World -> Prop) (m_1 : List Value -> World -> Nat), I [Value.int .i64 0, .slice none 0 0] w /\ ∀ (x : Int) (p : Option Addr) (n c : Nat) (w' : World), I [Value.int .i64 x, .slice p n c] w' -> ∃ (p_1 : Option Addr) (n_1 : Nat) (c_1 : Nat), w'.cell? (Addr.mk m (0 + 3) none) = some (.slice p_1 n_1 c_1) /\ bsp (decide (x < (↑n_1 : Int))) (∃ (p_2 : Option Addr) (n_2 : Nat) (c_2 : Nat), w'.cell? (Addr.mk m (0 + 3) none) = some (.slice p_2 n_2 c_2) /\ nn true p_2 fun (b o : Nat) => (0 <= x /\ x < (↑n_2 : Int)) /\ ∃ (x_1 : Int), w'.cell? (Addr.mk b (o + x.toNat * 72 + 35) none) = some (.int .i64 x_1) /\ ∃ (p_3 : Option Addr) (n_3 : Nat) (c_3 : Nat), gimp (!x_1 == 0) (w'.cell? (Addr.mk m (0 + 3) none) = some (.slice p_3 n_3 c_3)) /\
 nn (!x_1 == 0) p_3 fun (b o : Nat) => gimp (!x_1 == 0) (0 <= x /\ x < (↑n_3 : Int)) /\ ∃ (x_2 : Int), gimp (!x_1 == 0) (w'.cell? (Addr.mk b (o + x.toNat * 72 + 52) none) = some (.int .i64 x_2)) /\ bsp (x_1 == 0 || decide (x_2 ≥ bf)) (∃ (p_4 : Option Addr) (n_4 : Nat) (c_4 : Nat), w'.cell? (Addr.mk m (0 + 3) none) = some (.slice p_4 n_4 c_4) /\ nn true p_4 fun (b o : Nat) => (0 <= x /\ x < (↑n_4 : Int)) /\ ∃ (f : Nat -> Int) (x_3 : ByteArray), ∃ (x_4 : ByteArray) (x_5 : Int), ∃ (x_6 : Int) (f_1 : Nat -> Int), ∃ (x_7 : Int) (x_8 : ByteArray), ∃ (x_9 : Bool) (f_2 : Nat -> Int) (x_10 : Int), AtL w' b (o + x.toNat * 72) (arrI .u8 f 32 0 ++ ([Value.string x_3, .string x_4, .int .i64 x_5, .int .i64 x_6] ++ arrI .u8 f_1 16 0 ++ ([Value.int .i64 x_7, .string x_8, .bool x_9] ++ arrI .u8 f_2 16 0 ++ [Value.int .i64 x_10]))) /\ ∀ (n_5 : Nat) (W : World), Loc w.heap.size
 [Blk.mk n_5 91 (arrI .u8 f 32 0 ++ ([Value.string x_3, .string x_4, .int .i64 x_5, .int .i64 x_6] ++ arrI .u8 f_1 16 0 ++ ([Value.int .i64 x_7, .string x_8, .bool x_9] ++ arrI .u8 f_2 16 0 ++ [Value.int .i64 x_10]))) 2] w' W -> ∃ (base : Nat) (xs : List Value), W.ownsRow base 91 72 (.slice p n c) n xs /\ n + 1 <= 9223372036854775807 /\ (n + 1) * 152 <= 140737488355328 /\ base <= W.heap.size /\ ∀ (p' : Option Addr) (c' : Nat) (w'_1 : World), w'_1.ownsRow base 91 72 (.slice p' (n + 1) c') (n + 1) (xs ++ (arrI .u8 f 32 0 ++ ([Value.string x_3, .string x_4, .int .i64 x_5, .int .i64 x_6] ++ arrI .u8 f_1 16 0 ++ ([Value.int .i64 x_7, .string x_8, .bool x_9] ++ arrI .u8 f_2 16 0 ++ [Value.int .i64 x_10])))) -> W.grownBy w'_1 (Value.slice p n c).ownBlock -> AppL W p n c 1 p' c' -> KeptL [] W w'_1 /\ I [Value.int .i64 (IntKind.i64.wrap (x + 1)), .slice p' (n + 1) c'] w'_1 /\ m_1
 [Value.int .i64 (IntKind.i64.wrap (x + 1)), .slice p' (n + 1) c'] w'_1 < m_1 [Value.int .i64 x, .slice p n c] w') (I [Value.int .i64 (IntKind.i64.wrap (x + 1)), .slice p n c] w' /\ m_1 [Value.int .i64 (IntKind.i64.wrap (x + 1)), .slice p n c] w' < m_1 [Value.int .i64 x, .slice p n c] w')) (∃ (p_2 : Option Addr) (n_2 : Nat) (c_2 : Nat), w'.cell? (Addr.mk m (0 + 3) none) = some (.slice p_2 n_2 c_2) /\ ((∃ (u : Value), w'.cell? (Addr.mk m (0 + 3) none) = some u) /\ w'.frozen? (Addr.mk m (0 + 3) none) = false) /\ ∀ (w1 : World), PutB w' m (0 + 3) [Value.slice p n c] w1 -> KeptL [] w' w1 /\ R (.returned (.int .i64 (IntKind.i64.wrap ((↑n_2 : Int) - (↑n : Int))))) w1)
theorem vc_xforget (m : Nat) (bf : Int) (w : World) (R : Ending -> World -> Prop) (h : VC_xforget m bf w R) : Calls Tryz.prog 64 ([Value.pointer (some { block := m, off := 0 }), .int .i64 bf] : List Value).toArray w R :=
 calls_of_exec2' (loops := [(3, [(6, Ck.int .i64), (5, Ck.slice)])]) (tails := []) (joins := []) (boxes := []) (rngs := []) (c := Tryz.f64.body.getD .skip) pur1_ok Tryz.func64 (by kernel_rfl) (by kernel_rfl) h
end Go.Proofs.YtfacflbmlfbeeaaGreatDoor
namespace Go.Proofs.YtfacflbmlfbeeaaGreatDoor
open Go.RowKit Go.Sort Go.Maps
theorem nn_neg {g : Bool} {p : Option Addr} {K : Nat -> Nat -> Prop} (hg : g = false) (h : ∀ b o, K b o) : nn g p K := by subst hg; exact nn_off h
theorem gimp_neg {g : Bool} {X : Prop} (hg : g = false) : gimp g X := gimp_intro (fun h => by rw [hg] at h; cases h)
theorem RowA.ty {w w' : World} {N : Nat -> Prop} {p : Option Addr} {l : List (Nat -> Int)} (h : RowA auC 16 w p l) (ht : TyA w p) (hk : Kp N w w') (hm : ∀ k c f, w.heap[k]? = some (.cells c 45 f) -> ¬ N k) : RowA auC 16 w' p l := fun k y hy => by
 obtain ⟨b, o, h1, h2⟩ := h k y hy
 obtain ⟨c, f, hc⟩ := ht b o h1
 exact ⟨b, o, h1, ⟨At_of _ _ fun j u hu => hk.cell' (h2.cell hu) (hm b c f hc)⟩⟩
section
variable {w w1 : World} {B m : Nat} {M : Mo} {P : Pl}
theorem MoR.off (h : MoR w B m M P) {N : Nat -> Prop} {t : TypeId} (hk : Kp N w w1) (hN : ∀ k, N k -> ∃ c f, w.heap[k]? = some (.cells c t f)) (ht : (t == 57 || t == 93 || t == 91 || t == 45) = false) : MoR w1 B m M P := by
 have no : ∀ {k : Nat} {c : Array Value} {t' : TypeId} {f : Nat × Nat}, w.heap[k]? = some (.cells c t' f) -> (t == t') = false -> ¬ N k := fun hc hne hn => by
  obtain ⟨c', f', hc'⟩ := hN _ hn
  rw [hc] at hc'
  cases hc'
  simp at hne
 have tf : (t == 57) = false /\ (t == 93) = false /\ (t == 91) = false /\ (t == 45) = false := by
  simp only [Bool.or_eq_false_iff] at ht
  exact ⟨ht.1.1.1, ht.1.1.2, ht.1.2, ht.2⟩
 refine ⟨hk.blk h.st (no h.st tf.1), h.ge, owns_kp h.gw hk (fun k hk' => ?_), owns_kp h.ew hk (fun k hk' => ?_), fun y hy => ⟨(h.ms y hy).1.ty (h.ms y hy).2 hk (fun k c f hc => no hc tf.2.2.2), (h.ms y hy).2.kp hk (fun k c f hc => no hc tf.2.2.2)⟩⟩
 ·obtain ⟨c, hc⟩ := own_type h.gw hk'
  exact no hc tf.2.1
 ·obtain ⟨c, hc⟩ := own_type h.ew hk'
  exact no hc tf.2.2.1
theorem MoR.part (h : MoR w B m M P) {i g j : Nat} {y y' : En} {vs : List Value} (hy : M.es[i]? = some y) (hp : P.ep = some ⟨g, 0, none⟩) (hj : j + vs.length <= 72) (hyy : enC y' = putL (enC y) j vs) (hput : PutB w g (0 + i * 72 + j) vs w1) :
  MoR w1 B m { M with es := M.es.set i y' } P /\ Kp (MF w B) w w1 := by
 have hg : (Value.slice P.ep M.es.length P.ec).ownBlock = some g := by rw [hp]; rfl
 have hmf : Kp (MF w B) w w1 := hput.kp.mono fun k _ e => by have e : k = g := e; rw [e]; exact h.mfe hg
 obtain ⟨gc, hgc⟩ := own_type h.ew hg
 have hew := h.ew
 rw [hp] at hew
 have h2 := own_part (f := enC) (y := y) (y' := y') hew rfl enC_length (by decide) hy hj hyy hput
 have hl : (M.es.set i y').length = M.es.length := List.length_set
 refine ⟨⟨?_, h.ge, ?_, ?_, fun z hz => ⟨(h.ms z hz).1.mf (h.ms z hz).2 hmf, (h.ms z hz).2.mf hmf⟩⟩, hmf⟩
 ·rw [hl]
  exact hput.blk h.st (fun e => by have h3 := h.st; rw [e, hgc] at h3; cases h3)
 ·exact owns_kp h.gw hput.kp (fun k hk e => by
   have e : k = g := e
   subst e
   exact own_not h.gw hgc (by decide) hk)
 ·rw [hl, hp]; exact h2
theorem MoR.sete (h : MoR w B m M P) {i g : Nat} {y' : En} (hi : i < M.es.length) (hp : P.ep = some ⟨g, 0, none⟩) (hput : PutB w g (0 + i * 72) (enC y') w1) :
  MoR w1 B m { M with es := M.es.set i y' } P /\ Kp (MF w B) w w1 := by
 have hg : (Value.slice P.ep M.es.length P.ec).ownBlock = some g := by rw [hp]; rfl
 have hmf : Kp (MF w B) w w1 := hput.kp.mono fun k _ e => by have e : k = g := e; rw [e]; exact h.mfe hg
 obtain ⟨gc, hgc⟩ := own_type h.ew hg
 have hew := h.ew
 rw [hp] at hew
 have h2 := own_set (f := enC) (y := y') hew rfl enC_length (by decide) hi hput
 have hl : (M.es.set i y').length = M.es.length := List.length_set
 refine ⟨⟨?_, h.ge, ?_, ?_, fun z hz => ⟨(h.ms z hz).1.mf (h.ms z hz).2 hmf, (h.ms z hz).2.mf hmf⟩⟩, hmf⟩
 ·rw [hl]
  exact hput.blk h.st (fun e => by have h3 := h.st; rw [e, hgc] at h3; cases h3)
 ·exact owns_kp h.gw hput.kp (fun k hk e => by
   have e : k = g := e
   subst e
   exact own_not h.gw hgc (by decide) hk)
 ·rw [hl, hp]; exact h2
theorem MoR.newe (h : MoR w B m M P) {L : List En} {p : Option Addr} {c : Nat} (ho : w.ownsRow B 91 72 (.slice p L.length c) L.length (L.flatMap enC)) (hput : PutB w m (0 + 3) [.slice p L.length c] w1) :
  MoR w1 B m { M with es := L } ⟨P.gp, P.gc, p, c⟩ /\ Kp (MF w B) w w1 := by
 have hmf : Kp (MF w B) w w1 := hput.kp.mono fun k _ e => by have e : k = m := e; rw [e]; exact h.mfm
 refine ⟨⟨hput.block h.st, h.ge, ?_, ?_, fun z hz => ⟨(h.ms z hz).1.mf (h.ms z hz).2 hmf, (h.ms z hz).2.mf hmf⟩⟩, hmf⟩
 ·exact owns_kp h.gw hput.kp (fun k hk e => by
   have e : k = m := e
   subst e
   exact own_not h.gw h.st (by decide) hk)
 ·exact owns_kp ho hput.kp (fun k hk e => by
   have e : k = m := e
   subst e
   exact own_not ho h.st (by decide) hk)
end
theorem put_leE (y : En) (v : Bool) : enC { y with le := v } = putL (enC y) 54 [.bool v] := by
 have e1 : enC y = (arrI .u8 y.s.id 32 0 ++ (([.string y.s.g, .string y.s.tx, .int .i64 y.s.r, .int .i64 y.s.st] : List Value) ++ (arrI .u8 y.s.mo 16 0 ++ ([.int .i64 y.s.de, .string y.s.rs] : List Value)))) ++ (([.bool y.le] : List Value) ++ (arrI .u8 y.ho 16 0 ++ ([.int .i64 y.si] : List Value))) := by
  unfold enC
  simp only [List.append_assoc, List.cons_append, List.nil_append]
 have e2 := putL_mid [.bool v] (arrI .u8 y.s.id 32 0 ++ (([.string y.s.g, .string y.s.tx, .int .i64 y.s.r, .int .i64 y.s.st] : List Value) ++ (arrI .u8 y.s.mo 16 0 ++ ([.int .i64 y.s.de, .string y.s.rs] : List Value)))) [.bool y.le] (arrI .u8 y.ho 16 0 ++ ([.int .i64 y.si] : List Value)) rfl
 rw [e1, show 54 = (arrI .u8 y.s.id 32 0 ++ (([.string y.s.g, .string y.s.tx, .int .i64 y.s.r, .int .i64 y.s.st] : List Value) ++ (arrI .u8 y.s.mo 16 0 ++ ([.int .i64 y.s.de, .string y.s.rs] : List Value)))).length from rfl, e2]
 unfold enC
 simp only [List.append_assoc, List.cons_append, List.nil_append]
theorem put_ho (y : En) (a : Nat -> Int) : enC { y with ho := a } = putL (enC y) 55 (arrI .u8 a 16 0) := by
 have e1 : enC y = (arrI .u8 y.s.id 32 0 ++ (([.string y.s.g, .string y.s.tx, .int .i64 y.s.r, .int .i64 y.s.st] : List Value) ++ (arrI .u8 y.s.mo 16 0 ++ ([.int .i64 y.s.de, .string y.s.rs, .bool y.le] : List Value)))) ++ (arrI .u8 y.ho 16 0 ++ ([.int .i64 y.si] : List Value)) := by
  unfold enC
  simp only [List.append_assoc, List.cons_append, List.nil_append]
 have e2 := putL_mid (arrI .u8 a 16 0) (arrI .u8 y.s.id 32 0 ++ (([.string y.s.g, .string y.s.tx, .int .i64 y.s.r, .int .i64 y.s.st] : List Value) ++ (arrI .u8 y.s.mo 16 0 ++ ([.int .i64 y.s.de, .string y.s.rs, .bool y.le] : List Value)))) (arrI .u8 y.ho 16 0) ([.int .i64 y.si] : List Value) rfl
 rw [e1, show 55 = (arrI .u8 y.s.id 32 0 ++ (([.string y.s.g, .string y.s.tx, .int .i64 y.s.r, .int .i64 y.s.st] : List Value) ++ (arrI .u8 y.s.mo 16 0 ++ ([.int .i64 y.s.de, .string y.s.rs, .bool y.le] : List Value)))).length from rfl, e2]
 unfold enC
 simp only [List.append_assoc, List.cons_append, List.nil_append]
theorem put_si (y : En) (v : Int) : enC { y with si := v } = putL (enC y) 71 [.int .i64 v] := by
 have e1 : enC y = (arrI .u8 y.s.id 32 0 ++ (([.string y.s.g, .string y.s.tx, .int .i64 y.s.r, .int .i64 y.s.st] : List Value) ++ (arrI .u8 y.s.mo 16 0 ++ (([.int .i64 y.s.de, .string y.s.rs, .bool y.le] : List Value) ++ arrI .u8 y.ho 16 0)))) ++ (([.int .i64 y.si] : List Value) ++ ([] : List Value)) := by
  unfold enC
  simp only [List.append_assoc, List.cons_append, List.nil_append]
 have e2 := putL_mid [.int .i64 v] (arrI .u8 y.s.id 32 0 ++ (([.string y.s.g, .string y.s.tx, .int .i64 y.s.r, .int .i64 y.s.st] : List Value) ++ (arrI .u8 y.s.mo 16 0 ++ (([.int .i64 y.s.de, .string y.s.rs, .bool y.le] : List Value) ++ arrI .u8 y.ho 16 0)))) [.int .i64 y.si] ([] : List Value) rfl
 rw [e1, show 71 = (arrI .u8 y.s.id 32 0 ++ (([.string y.s.g, .string y.s.tx, .int .i64 y.s.r, .int .i64 y.s.st] : List Value) ++ (arrI .u8 y.s.mo 16 0 ++ (([.int .i64 y.s.de, .string y.s.rs, .bool y.le] : List Value) ++ arrI .u8 y.ho 16 0)))).length from rfl, e2]
 unfold enC
 simp only [List.append_assoc, List.cons_append, List.nil_append]
theorem MoR.lease {w w1 w2 w3 : World} {B m : Nat} {M : Mo} {P : Pl} (h : MoR w B m M P) {i g : Nat} {y : En} {v : Bool} {a : Nat -> Int} {si : Int} (hy : M.es[i]? = some y) (hp : P.ep = some ⟨g, 0, none⟩)
  (p1 : PutB w g (0 + i * 72 + 54) [.bool v] w1) (p2 : PutB w1 g (0 + i * 72 + 55) (arrI .u8 a 16 0) w2) (p3 : PutB w2 g (0 + i * 72 + 71) [.int .i64 si] w3) :
  MoR w3 B m { M with es := M.es.set i ⟨y.s, v, a, si⟩ } P /\ Kp (MF w B) w w3 := by
 have hi : i < M.es.length := (List.getElem?_eq_some_iff.1 hy).1
 obtain ⟨h1, k1⟩ := h.part hy hp (by show 54 + 1 <= 72; omega) (put_leE y v) p1
 obtain ⟨h2, k2⟩ := h1.part (y := { y with le := v }) (by show (M.es.set i _)[i]? = _; rw [List.getElem?_set]; simp [hi]) hp (by show 55 + 16 <= 72; omega) (put_ho { y with le := v } a) p2
 obtain ⟨h3, k3⟩ := h2.part (y := { y with le := v, ho := a }) (by show ((M.es.set i _).set i _)[i]? = _; rw [List.getElem?_set]; simp [hi]) hp (by show 71 + 1 <= 72; omega) (put_si { y with le := v, ho := a } si) p3
 have e : ((M.es.set i { y with le := v }).set i { y with le := v, ho := a }).set i { y with le := v, ho := a, si := si } = M.es.set i ⟨y.s, v, a, si⟩ := by rw [List.set_set, List.set_set]
 refine ⟨?_, (k1.mft k2).mft k3⟩
 have h3 : MoR w3 B m { M with es := ((M.es.set i { y with le := v }).set i { y with le := v, ho := a }).set i { y with le := v, ho := a, si := si } } P := h3
 rw [e] at h3
 exact h3
set_option maxHeartbeats 2000000 in
set_option maxRecDepth 100000 in
theorem xend_any {w : World} {B m : Nat} {M : Mo} {P : Pl} (h : MoR w B m M P) {i : Nat} {y : En} (hy : M.es[i]? = some y) (st : Int) (a : Nat -> Int) (rs : ByteArray) (now : Int) :
  Calls Tryz.prog 61 #[.pointer (some ⟨m, 0, none⟩), .int .i64 (i : Int), .int .i64 st, .agg (arrI .u8 a 16 0).toArray, .string rs, .int .i64 now] w fun e w' => e = .returned (.tuple #[]) /\ MoR w' B m { M with es := M.es.set i (plainE (finS39 y.s a now st rs)) } P /\ Kp (MF w B) w w' := by
 have hi : i < M.es.length := (List.getElem?_eq_some_iff.1 hy).1
 refine vc_xend m i st a rs now w _ (fun n => ⟨_, _, _, fun W hW => (h.k0 (hW.kk rfl)).cE, ?_⟩)
 obtain ⟨y2, b, o, hy2, hp, hat⟩ := h.rowE.get hi
 rw [hy] at hy2
 cases hy2
 obtain ⟨g, hg, _⟩ := own_wr h.ew hi
 rw [hp] at hg
 simp only [Option.some.injEq, Addr.mk.injEq, and_true] at hg
 obtain ⟨rfl, rfl⟩ := hg
 have hats : AtL w b (0 + i * 72) (sbC y.s) := by
  have e : enC y = sbC y.s ++ (([.bool y.le] : List Value) ++ (arrI .u8 y.ho 16 0 ++ ([.int .i64 y.si] : List Value))) := by
   unfold enC sbC
   simp only [List.append_assoc, List.cons_append, List.nil_append]
  rw [e] at hat
  exact hat.left
 clear hat
 rw [Int.toNat_natCast]
 refine nn_is hp ⟨⟨by omega, by omega⟩, y.s.id, y.s.g, y.s.tx, y.s.r, y.s.st, y.s.mo, y.s.de, y.s.rs, fun W hW => hats.k0 (hW.kk rfl), fun n2 W hW => ?_⟩
 have kW : K0 w W := hW.kk rfl
 have c0 := hW.cells 0 rfl
 have c1 := hW.cells 1 rfl
 have g0 : w.heap.size <= n2 := hW.fresh 0 rfl rfl
 have a10 := hW.apart 1 0 rfl rfl (by decide)
 simp only at a10
 refine ⟨fun wx => Kp (· = n2) W wx, .refl _ _, a, fun wx k => AtL_block (k.blk c1 (fun e => a10 e)) rfl, ⟨⟨_, cell_at c0 rfl⟩, frozen_block c0 _⟩, fun w1 p1 => ⟨p1.kp, ?_⟩⟩
 have d1 : w1.heap[n2]? = some (.cells (sbC { y.s with st := st }).toArray 48 (0, 0)) := p1.block c0
 refine ⟨WrL_block d1 (by show 0 + 36 + 16 <= 54; omega), fun w2 p2 => ?_⟩
 have d2 : w2.heap[n2]? = some (.cells (sbC { y.s with st := st, mo := a }).toArray 48 (0, 0)) := put_mo d1 p2
 refine ⟨⟨⟨_, cell_at d2 rfl⟩, frozen_block d2 _⟩, fun w3 p3 => ?_⟩
 have d3 : w3.heap[n2]? = some (.cells (sbC { y.s with st := st, mo := a, de := now }).toArray 48 (0, 0)) := p3.block d2
 refine ⟨⟨⟨_, cell_at d3 rfl⟩, frozen_block d3 _⟩, fun w4 p4 => ?_⟩
 have d4 : w4.heap[n2]? = some (.cells (sbC (finS39 y.s a now st rs)).toArray 48 (0, 0)) := p4.block d3
 have k4 : Kp (· = n2) W w4 := ((p1.kp.trans p2.kp).trans p3.kp).trans p4.kp
 have k04 : K0 w w4 := kW.fresh k4 (fun i hi e => by omega)
 have h4 := h.k0 k04
 generalize finS39 y.s a now st rs = X at d4 ⊢
 refine ⟨.of_kp k4 (fun z hz => ?_), _, _, _, fun W5 hW5 => (h4.k0 (hW5.kk rfl)).cE, X.id, X.g, X.tx, X.r, X.st, X.mo, X.de, X.rs, fun W5 hW5 => AtL_block ((hW5.kk rfl : K0 w4 W5).blk d4 (fun h => h)) rfl, nn_is hp ⟨⟨by omega, by omega⟩, fun W5 hW5 => ?_⟩⟩
 ·simp only [List.mem_cons, List.not_mem_nil, or_false] at hz
  rcases hz with rfl
  exact a10
 have k5 : K0 w4 W5 := hW5.kk rfl
 have h5 := h4.k0 k5
 have e0 := hW5.cells 0 rfl
 obtain ⟨g', hg', hwr⟩ := own_wr h5.ew hi
 rw [hp] at hg'
 simp only [Option.some.injEq, Addr.mk.injEq, and_true] at hg'
 subst hg'
 refine ⟨hwr, fun w6 p6 => ?_⟩
 obtain ⟨h6, k6⟩ := h5.sete (y' := plainE X) hi hp p6
 refine ⟨.of_kp p6.kp (fun z hz e => ?_), rfl, h6, (Kp.mf0 (k04.trans k5)).mft k6⟩
 simp only [List.mem_cons, List.not_mem_nil, or_false] at hz
 subst hz
 obtain ⟨cc, hcc⟩ := own_type h5.ew (k := b) (by rw [hp]; rfl)
 exact blk_ne e0 hcc rfl e
end Go.Proofs.YtfacflbmlfbeeaaGreatDoor
namespace Go.Proofs.YtfacflbmlfbeeaaGreatDoor
open Go.RowKit Go.Sort Go.Maps
def Mo.fd (M : Mo) (k : Ky) : Option En := M.es.find? fun y => decide (y.s.ky = k)
def Mo.up (M : Mo) (k : Ky) (f : En -> En) : Mo := { M with es := M.es.map fun y => if y.s.ky = k then f y else y }
def DisK (es : List En) : Prop := es.Pairwise fun x y => x.s.ky ≠ y.s.ky
theorem dis_fd : ∀ {es : List En} {i : Nat} {y : En} {k : Ky}, DisK es -> es[i]? = some y -> y.s.ky = k -> es.find? (fun y => decide (y.s.ky = k)) = some y
 | [], i, y, k, _, h, _ => by simp at h
 | a :: es, 0, y, k, hd, h, hk => by
  simp only [List.getElem?_cons_zero, Option.some.injEq] at h
  subst h
  rw [List.find?_cons, hk]; simp
 | a :: es, i + 1, y, k, hd, h, hk => by
  have h : es[i]? = some y := by simpa using h
  have hd' := List.pairwise_cons.1 hd
  have hne : a.s.ky ≠ k := by rw [<- hk]; exact hd'.1 y (List.mem_of_getElem? h)
  rw [List.find?_cons, show decide (a.s.ky = k) = false from decide_eq_false hne]
  exact dis_fd hd'.2 h hk
theorem dis_map_id : ∀ {es : List En} {k : Ky} (f : En -> En), (∀ y ∈ es, y.s.ky ≠ k) -> (es.map fun y => if y.s.ky = k then f y else y) = es
 | [], k, f, _ => rfl
 | a :: es, k, f, h => by
  rw [List.map_cons, if_neg (h a (by simp)), dis_map_id f (fun y hy => h y (by simp [hy]))]
theorem dis_set : ∀ {es : List En} {i : Nat} {y : En} {k : Ky} (f : En -> En), DisK es -> es[i]? = some y -> y.s.ky = k -> es.set i (f y) = es.map fun y => if y.s.ky = k then f y else y
 | [], i, y, k, f, _, h, _ => by simp at h
 | a :: es, 0, y, k, f, hd, h, hk => by
  simp only [List.getElem?_cons_zero, Option.some.injEq] at h
  subst h
  have hd' := List.pairwise_cons.1 hd
  rw [List.set_cons_zero, List.map_cons, if_pos hk, dis_map_id f (fun y hy => by rw [<- hk]; exact fun e => hd'.1 y hy e.symm)]
 | a :: es, i + 1, y, k, f, hd, h, hk => by
  have h : es[i]? = some y := by simpa using h
  have hd' := List.pairwise_cons.1 hd
  have hne : a.s.ky ≠ k := by rw [<- hk]; exact hd'.1 y (List.mem_of_getElem? h)
  rw [List.set_cons_succ, List.map_cons, if_neg hne, dis_set f hd'.2 h hk]
theorem no_fd {es : List En} {k : Ky} (h : ∀ y ∈ es, y.s.ky ≠ k) : es.find? (fun y => decide (y.s.ky = k)) = none := by
 rw [List.find?_eq_none]
 intro y hy
 simpa using h y hy
structure Mo.OK (M : Mo) : Prop where
 days : 1 <= M.days /\ M.days <= 365
 el : M.es.length <= 100000
 gl : M.gs.length <= 100000
 es : ∀ y ∈ M.es, y.OK /\ y.s.g.size <= 1000
 dis : DisK M.es
 gs : ∀ y ∈ M.gs, (∀ z ∈ y.x.l, BY z /\ NZ 16 z) /\ y.x.l.length <= 8
theorem Mo.OK.md {M : Mo} (h : M.OK) (g : ByteArray) : (∀ z ∈ (M.md g).l, BY z) /\ (M.md g).l.length <= 1000000 := by
 unfold Mo.md
 cases hf : M.gs.find? fun y => decide (y.g = g) with
 | none => exact ⟨(fun z hz => by cases hz), by decide⟩
 | some y =>
  have := h.gs y (List.mem_of_find?_eq_some hf)
  exact ⟨fun z hz => (this.1 z hz).1, by show y.x.l.length <= _; omega⟩
theorem hdW_blk (x : En) (a : Nat -> Int) (now : Int) (h : x.s.st = 0) : (hdW x now && !decide (auI (hdA x now) = auI a)) = blk x (auI a) now := by
 unfold blk hdA hdW
 have e : (x.s.st == 0) = true := by simp [h]
 rw [e, Bool.true_and]
 cases inE x now <;> simp
theorem hdA_by {x : En} (h : x.OK) (now : Int) : BY (hdA x now) := by
 unfold hdA
 split
 ·exact h.ho
 ·exact by0
def xrlE (M : Mo) (k : Ky) (a : Nat -> Int) (now : Int) : Int := if minB now = false then 2 else match M.fd k with
 | none => 8
 | some y => if y.s.st ≠ 0 then 8 else if inE y now = false \/ auI y.ho ≠ auI a then 10 else 0
def xrlM (M : Mo) (k : Ky) (a : Nat -> Int) (now : Int) : Mo := if xrlE M k a now = 0 then M.up k (fun y => plainE y.s) else M
theorem minB_ft {now : Int} (h : (!minB now) = true) : minB now = false := by simpa using h
theorem minB_ff {now : Int} (h : (!minB now) = false) : minB now = true := by simpa using h
set_option maxHeartbeats 2000000 in
set_option maxRecDepth 100000 in
theorem xrelease_any {w : World} {B m : Nat} {M : Mo} {P : Pl} (h : MoR w B m M P) (ho : M.OK) (f : Nat -> Int) (hf : BY f) (g : ByteArray) (a : Nat -> Int) (ha : BY a) (now : Int) :
  Calls Tryz.prog 63 #[.pointer (some ⟨m, 0, none⟩), .agg (arrI .u8 f 32 0).toArray, .string g, .agg (arrI .u8 a 16 0).toArray, .int .i64 now] w fun e w' => e = .returned (.int .i64 (xrlE M (idI f, g) a now)) /\ MoR w' B m (xrlM M (idI f, g) a now) P /\ Kp (MF w B) w w' := by
 refine vc_xrelease m f g a now w _ (fun n n1 W hW => ?_)
 have kW : K0 w W := hW.kk rfl
 have c0 := hW.cells 0 rfl
 have c1 := hW.cells 1 rfl
 have hel := ho.el
 refine ⟨(xmin_any now W).mono fun e w1 ⟨he, k1⟩ => ⟨_, he, .of_k0 k1, bsp_intro (fun h1 => ?_) (fun h1 => ?_)⟩⟩
 ·have h1 := minB_ft h1
  have hE : xrlE M (idI f, g) a now = 2 := by unfold xrlE; rw [if_pos h1]
  have hM : xrlM M (idI f, g) a now = M := by unfold xrlM; rw [hE, if_neg (by decide)]
  rw [hE, hM]
  exact ⟨rfl, h.k0 (kW.trans k1), .mf0 (kW.trans k1)⟩
 have h1 := minB_ff h1
 have k01 := kW.trans k1
 refine ⟨(xfind39_any (h.k0 k01) (by omega) f hf (fun x hx => (ho.es x hx).1.s.id) g).mono fun e w2 ⟨hfd, k2⟩ => ?_⟩
 have k02 := k01.trans k2
 have h2 := h.k0 k02
 rcases hfd with ⟨he, hno⟩ | ⟨i, y, he, hy, hky⟩
 ·have hE : xrlE M (idI f, g) a now = 8 := by unfold xrlE Mo.fd; rw [if_neg (by rw [h1]; decide), no_fd hno]
  have hM : xrlM M (idI f, g) a now = M := by unfold xrlM; rw [hE, if_neg (by decide)]
  rw [hE, hM]
  refine ⟨_, he, .of_k0 k2, none, 0, 0, gimp_neg rfl, nn_neg rfl fun _ _ => ⟨gimp_neg rfl, 0, gimp_neg rfl, bsp_intro (fun _ => ⟨rfl, h2, .mf0 k02⟩) (fun h => by cases h)⟩⟩
 have hi : i < M.es.length := (List.getElem?_eq_some_iff.1 hy).1
 obtain ⟨y2, b, o, hy2, hp, hat⟩ := h2.rowE.get hi
 rw [hy] at hy2
 cases hy2
 obtain ⟨gg, hg, hwr54⟩ := own_wrc h2.ew hi (j := 54) (by decide)
 rw [hp] at hg
 simp only [Option.some.injEq, Addr.mk.injEq, and_true] at hg
 obtain ⟨rfl, rfl⟩ := hg
 have hfd : M.fd (idI f, g) = some y := dis_fd ho.dis hy hky
 have hyo := (ho.es y (List.mem_of_getElem? hy)).1
 have hE0 : xrlE M (idI f, g) a now = if y.s.st ≠ 0 then 8 else if inE y now = false \/ auI y.ho ≠ auI a then 10 else 0 := by
  unfold xrlE
  rw [if_neg (by rw [h1]; decide), hfd]
 refine ⟨_, he, .of_k0 k2, _, _, _, gimp_intro fun _ => h2.cE, nn_is hp ⟨gimp_intro fun _ => ⟨by omega, by omega⟩, y.s.st, gimp_intro fun _ => by rw [Int.toNat_natCast]; exact hat.cell (j := 35) rfl, ?_⟩⟩
 rw [Int.toNat_natCast]
 have hdi : decide ((i : Int) < 0) = false := by simp
 rw [hdi, Bool.false_or]
 refine bsp_intro (fun h3 => ?_) (fun h3 => ⟨_, _, _, h2.cE, nn_is hp ⟨⟨by omega, by omega⟩, y.s.id, y.s.g, y.s.tx, y.s.r, y.s.st, y.s.mo, y.s.de, y.s.rs, y.le, y.ho, y.si, hat, ?_⟩⟩)
 ·have h3 : y.s.st ≠ 0 := by simpa using h3
  rw [if_pos h3] at hE0
  have hM : xrlM M (idI f, g) a now = M := by unfold xrlM; rw [hE0, if_neg (by decide)]
  rw [hE0, hM]
  exact ⟨rfl, h2, .mf0 k02⟩
 have h3 : y.s.st = 0 := by simpa using h3
 rw [if_neg (by omega)] at hE0
 have hwd : hdW y now = inE y now := by unfold hdW; simp [h3]
 refine ⟨(xholder_any y now hyo.si w2).mono fun e w3 ⟨he, k3⟩ => ⟨_, _, he, .of_k0 k3, fun n4 => ⟨_, gimp_intro fun _ => auEq (hdA_by hyo now) ha, ?_⟩⟩⟩
 rw [hwd]
 have k03 := k02.trans k3
 have h3' := h2.k0 k3
 refine bsp_intro (fun h4 W4 hW4 => ?_) (fun h4 W4 hW4 => ?_)
 ·have h4 : inE y now = false \/ auI y.ho ≠ auI a := by
   rcases hin : inE y now with _ | _
   ·exact .inl rfl
   ·right
    rw [hin] at h4
    unfold hdA at h4
    rw [hwd, hin, if_pos rfl] at h4
    simpa using h4
  rw [if_pos h4] at hE0
  have hM : xrlM M (idI f, g) a now = M := by unfold xrlM; rw [hE0, if_neg (by decide)]
  rw [hE0, hM]
  have k4 : K0 w W4 := hW4.k0 k03
  exact ⟨rfl, h.k0 k4, .mf0 k4⟩
 have h4 : ¬ (inE y now = false \/ auI y.ho ≠ auI a) := by
  simp only [Bool.or_eq_false_iff, Bool.not_eq_eq_eq_not, Bool.not_false] at h4
  have h5 := h4.2
  unfold hdA at h5
  rw [hwd, h4.1, if_pos rfl] at h5
  rw [h4.1]
  simpa using h5
 rw [if_neg h4] at hE0
 have k4 : K0 w W4 := hW4.k0 k03
 have hM4 := h.k0 k4
 have f0 := hW4.cells 0 rfl
 have f1 := hW4.cells 1 rfl
 have f2 := hW4.cells 2 rfl
 obtain ⟨g4, hg4, hwr4⟩ := own_wrc hM4.ew hi (j := 54) (by decide)
 rw [hp] at hg4
 simp only [Option.some.injEq, Addr.mk.injEq, and_true] at hg4
 subst hg4
 refine ⟨fun wx => K0 W4 wx, .refl _ _, _, _, _, fun wx k => (hM4.k0 k).cE, _, _, _, fun wx k => (hM4.k0 k).cE, _, _, _, fun wx k => (hM4.k0 k).cE, nn_is hp ⟨⟨by omega, by omega⟩, hwr4, fun w5 p5 => ?_⟩⟩
 obtain ⟨hM5, k5⟩ := hM4.part hy hp (by show 54 + 1 <= 72; omega) (put_leE y false) p5
 have hi5 : i < ({ M with es := M.es.set i { y with le := false } } : Mo).es.length := by show i < (M.es.set i _).length; rw [List.length_set]; exact hi
 obtain ⟨g5, hg5, hwr5⟩ := own_wrp hM5.ew hi5 (j := 55) (m := 16) (by decide)
 rw [hp] at hg5
 simp only [Option.some.injEq, Addr.mk.injEq, and_true] at hg5
 subst hg5
 refine nn_is hp ⟨⟨by omega, by omega⟩, hwr5, fun w6 p6 => ?_⟩
 obtain ⟨hM6, k6⟩ := hM5.part (i := i) (y := { y with le := false }) (by show (M.es.set i _)[i]? = _; rw [List.getElem?_set]; simp [hi]) hp (by show 55 + 16 <= 72; omega) (put_ho { y with le := false } (fun _ => 0)) p6
 have hi6 : i < ((M.es.set i { y with le := false }).set i { y with le := false, ho := fun _ => 0 }).length := by rw [List.length_set, List.length_set]; exact hi
 obtain ⟨g6, hg6, hwr6⟩ := own_wrc hM6.ew hi6 (j := 71) (by decide)
 rw [hp] at hg6
 simp only [Option.some.injEq, Addr.mk.injEq, and_true] at hg6
 subst hg6
 refine nn_is hp ⟨⟨by omega, by omega⟩, hwr6, fun w7 p7 => ?_⟩
 have p6' : PutB w5 b (0 + i * 72 + 55) (arrI .u8 (fun _ => 0) 16 0) w6 := p6
 obtain ⟨hM7, k7⟩ := hM4.lease hy hp p5 p6' p7
 have kp7 : Kp (· = b) W4 w7 := (p5.kp.trans p6.kp).trans p7.kp
 obtain ⟨cc, hcc⟩ := own_type hM4.ew (k := b) (by rw [hp]; rfl)
 have hM : xrlM M (idI f, g) a now = { M with es := M.es.set i ⟨y.s, false, fun _ => 0, 0⟩ } := by
  unfold xrlM
  rw [hE0, if_pos rfl]
  unfold Mo.up
  rw [<- dis_set (fun y => plainE y.s) ho.dis hy hky]
  rfl
 rw [hE0, hM]
 refine ⟨.of_kp kp7 (fun z hz e => ?_), rfl, hM7, (Kp.mf0 k4).mft k7⟩
 simp only [List.mem_cons, List.not_mem_nil, or_false] at hz
 rcases hz with rfl | rfl | rfl
 ·exact blk_ne f0 hcc rfl e
 ·exact blk_ne f1 hcc rfl e
 ·exact blk_ne f2 hcc rfl e
def xclE (M : Mo) (g : ByteArray) (a : Nat -> Int) (now : Int) : Int := if minB now = false then 2 else if isMB (M.md g) a = false then 20 else match M.es.find? (clP g (auI a) now) with
 | none => 8
 | some _ => 0
def xclS (M : Mo) (g : ByteArray) (a : Nat -> Int) (now : Int) : Sb := if xclE M g a now = 0 then ((M.es.find? (clP g (auI a) now)).getD enz).s else sbz
def xclM (M : Mo) (g : ByteArray) (a : Nat -> Int) (now : Int) : Mo := if xclE M g a now = 0 then M.up (xclS M g a now).ky (fun y => ⟨y.s, true, a, now⟩) else M
theorem sb_left (x : En) {w : World} {b o : Nat} (h : AtL w b o (enC x)) : AtL w b o (sbC x.s) := by
 have e : enC x = sbC x.s ++ (([.bool x.le] : List Value) ++ (arrI .u8 x.ho 16 0 ++ ([.int .i64 x.si] : List Value))) := by
  unfold enC sbC
  simp only [List.append_assoc, List.cons_append, List.nil_append]
 rw [e] at h
 exact h.left
set_option maxHeartbeats 4000000 in
set_option maxRecDepth 100000 in
theorem xclaim_any {w : World} {B m : Nat} {M : Mo} {P : Pl} (h : MoR w B m M P) (ho : M.OK) (g : ByteArray) (a : Nat -> Int) (ha : BY a) (now : Int) :
  Calls Tryz.prog 62 #[.pointer (some ⟨m, 0, none⟩), .string g, .agg (arrI .u8 a 16 0).toArray, .int .i64 now] w fun e w' => e = .returned (.tuple #[sbV (xclS M g a now), .int .i64 (xclE M g a now)]) /\ MoR w' B m (xclM M g a now) P /\ Kp (MF w B) w w' := by
 refine vc_xclaim m g a now w _ (fun n n1 W hW => ?_)
 have kW : K0 w W := hW.kk rfl
 have c0 := hW.cells 0 rfl
 have c1 := hW.cells 1 rfl
 have gn1 : w.heap.size <= n1 := hW.fresh 0 rfl rfl
 have hel := ho.el
 have hgl := ho.gl
 have bad : ∀ {E : Int}, xclE M g a now = E -> E ≠ 0 -> xclS M g a now = sbz /\ xclM M g a now = M := fun hE h0 => by
  constructor
  ·unfold xclS; rw [hE, if_neg h0]
  ·unfold xclM; rw [hE, if_neg h0]
 refine ⟨(xmin_any now W).mono fun e w1 ⟨he, k1⟩ => ⟨_, he, .of_k0 k1, bsp_intro (fun h1 W2 hW2 => ?_) (fun h1 => ?_)⟩⟩
 ·have h1 := minB_ft h1
  have hE : xclE M g a now = 2 := by unfold xclE; rw [if_pos h1]
  obtain ⟨hS, hM⟩ := bad hE (by decide)
  rw [hE, hS, hM]
  have k2 : K0 w W2 := hW2.k0 (kW.trans k1)
  exact ⟨rfl, h.k0 k2, .mf0 k2⟩
 have h1 := minB_ff h1
 have k01 := kW.trans k1
 refine ⟨(xis_any (h.k0 k01) (by omega) g a ha (ho.md g)).mono fun e w2 ⟨he, k2⟩ => ⟨_, he, .of_k0 k2, bsp_intro (fun h2 W3 hW3 => ?_) (fun h2 => ?_)⟩⟩
 ·have h2 : isMB (M.md g) a = false := by simpa using h2
  have hE : xclE M g a now = 20 := by unfold xclE; rw [if_neg (by rw [h1]; decide), if_pos h2]
  obtain ⟨hS, hM⟩ := bad hE (by decide)
  rw [hE, hS, hM]
  have k3 : K0 w W3 := hW3.k0 (k01.trans k2)
  exact ⟨rfl, h.k0 k3, .mf0 k3⟩
 have h2 : isMB (M.md g) a = true := by simpa using h2
 have k02 := k01.trans k2
 have hE0 : xclE M g a now = match M.es.find? (clP g (auI a) now) with
   | none => 8
   | some _ => 0 := by unfold xclE; rw [if_neg (by rw [h1]; decide), if_neg (by rw [h2]; decide)]
 have kW2 := k1.trans k2
 have d0 := kW2.blk c0 (fun h => h)
 have d1 := kW2.blk c1 (fun h => h)
 simp only at d0 d1
 refine ⟨fun vs w' => ∃ i : Nat, vs = [.int .i64 (i : Int)] /\ i <= M.es.length /\ (∀ (j : Nat) (y : En), j < i -> M.es[j]? = some y -> clP g (auI a) now y = false) /\ K0 w w' /\ K0 w2 w', fun vs _ => (match vs with | .int _ a :: _ => M.es.length - a.toNat | _ => 0), ⟨0, rfl, by omega, fun j y h => by omega, k02, .refl _ _⟩, ?_⟩
 rintro x w3 ⟨i, hv, hi, hno, k03, k23⟩ hL
 simp only [List.cons.injEq, Value.int.injEq, true_and, and_true] at hv
 subst hv
 have h3 := h.k0 k03
 refine ⟨_, _, _, h3.cE, bsp_intro (fun hlt => ⟨_, _, _, h3.cE, ?_⟩) (fun hge => ?_)⟩
 rotate_left
 ·have hi2 : i = M.es.length := by simp at hge; omega
  subst hi2
  have hnf : M.es.find? (clP g (auI a) now) = none := find_no39 fun j y hy => hno j y (List.getElem?_eq_some_iff.1 hy).1 hy
  rw [hnf] at hE0
  have hE0 : xclE M g a now = 8 := hE0
  obtain ⟨hS, hM⟩ := bad hE0 (by decide)
  rw [hE0, hS, hM]
  have e0 := k23.blk d0 (fun h => h)
  have e1 := k23.blk d1 (fun h => h)
  refine ⟨WrL_block e0 (by show 0 + 54 <= 54; omega), fun w4 p4 => ⟨.of_kp p4.kp (fun z hz e => ?_), sbz.id, sbz.g, sbz.tx, sbz.r, sbz.st, sbz.mo, sbz.de, sbz.rs, ?_, rfl, ?_, ?_⟩⟩
  ·simp only [List.mem_cons, List.not_mem_nil, or_false] at hz
   subst hz
   exact blk_ne e1 e0 rfl e
  ·have p4' : PutB w3 n1 0 (sbC sbz) w4 := p4
   exact AtL_block (p4'.full e0 rfl) rfl
  ·exact h3.off p4.kp (fun k e => by have e : k = n1 := e; rw [e]; exact ⟨_, _, e0⟩) rfl
  ·have k4 : K0 w w4 := k03.fresh p4.kp (fun k hk e => by have e : k = n1 := e; omega)
   exact .mf0 k4
 have hlt : i < M.es.length := by simp at hlt; omega
 obtain ⟨y, b, o, hy, hp, hat⟩ := h3.rowE.get hlt
 obtain ⟨gg, hg, _⟩ := own_wrc h3.ew hlt (j := 54) (by decide)
 rw [hp] at hg
 simp only [Option.some.injEq, Addr.mk.injEq, and_true] at hg
 obtain ⟨rfl, rfl⟩ := hg
 have hyo := (ho.es y (List.mem_of_getElem? hy)).1
 rw [Int.toNat_natCast]
 have next : clP g (auI a) now y = false -> ∀ {W : World}, K0 w3 W -> (∃ i' : Nat, ([.int .i64 (IntKind.i64.wrap ((i : Int) + 1))] : List Value) = [.int .i64 (i' : Int)] /\ i' <= M.es.length /\ (∀ (j : Nat) (y : En), j < i' -> M.es[j]? = some y -> clP g (auI a) now y = false) /\ K0 w W /\ K0 w2 W) := fun hc W k => by
  refine ⟨i + 1, by rw [inc64 (by omega)], hlt, fun j z hj hz => ?_, k03.trans k, k23.trans k⟩
  by_cases e : j = i
  ·subst e; rw [hy] at hz; cases hz; exact hc
  ·exact hno j z (by omega) hz
 have dec : M.es.length - (IntKind.i64.wrap ((i : Int) + 1)).toNat < M.es.length - (i : Int).toNat := by
  rw [inc64 (by omega)]; simp only [Int.toNat_natCast]; omega
 refine nn_is hp ⟨⟨by omega, by omega⟩, y.s.id, y.s.g, y.s.tx, y.s.r, y.s.st, y.s.mo, y.s.de, y.s.rs, y.le, y.ho, y.si, hat, fun n4 => ⟨y.s.g, gimp_intro fun _ W4 hW4 => cell_at (hW4.cells 1 rfl) rfl, bsp_intro (fun h4 W4 hW4 => ?_) (fun h4 W4 hW4 => ?_)⟩⟩
 ·rw [str_beq] at h4
  have hc : clP g (auI a) now y = false := by
   unfold clP
   have : (decide (y.s.g = g) && y.s.st == 0) = false := by
    rcases hd : decide (y.s.g = g) with _ | _
    ·rfl
    ·rw [hd] at h4
     simp at h4
     simp [h4]
   rw [this]; rfl
  exact ⟨next hc (hW4.kk rfl), dec⟩
 rw [str_beq] at h4
 have h4 : y.s.st = 0 /\ y.s.g = g := by simpa using h4
 have k4 : K0 w3 W4 := hW4.kk rfl
 have e1 := hW4.cells 0 rfl
 have n4b : n4 ≠ b := by
  have q1 : w3.heap.size <= n4 := hW4.fresh 1 rfl rfl
  have q2 := own_lt h3.ew (k := b) (by rw [hp]; rfl)
  omega
 have hblk := hdW_blk y a now h4.1
 refine ⟨(xholder_any y now hyo.si W4).mono fun e w5 ⟨he, k5⟩ => ⟨_, _, he, .of_k0 k5, fun n5 => ⟨_, gimp_intro fun _ => auEq (hdA_by hyo now) ha, ?_⟩⟩⟩
 rw [hblk]
 have k35 := k4.trans k5
 refine bsp_intro (fun h5 W6 hW6 => ?_) (fun h5 W6 hW6 => ?_)
 ·have hc : clP g (auI a) now y = false := by unfold clP; rw [h5]; simp
  exact ⟨next hc (k35.trans (hW6.kk rfl)), dec⟩
 have hc : clP g (auI a) now y = true := by unfold clP; rw [h5, h4.1, h4.2]; simp
 have hfd : M.es.find? (clP g (auI a) now) = some y := find_at39 M.es i y hy hc hno
 rw [hfd] at hE0
 have hE0 : xclE M g a now = 0 := hE0
 have hS : xclS M g a now = y.s := by unfold xclS; rw [hE0, if_pos rfl, hfd]; rfl
 have hM : xclM M g a now = { M with es := M.es.set i ⟨y.s, true, a, now⟩ } := by
  unfold xclM
  rw [hE0, if_pos rfl, hS]
  unfold Mo.up
  rw [<- dis_set (fun y => ⟨y.s, true, a, now⟩) ho.dis hy rfl]
 rw [hE0, hS, hM]
 have k6 : K0 w3 W6 := k35.trans (hW6.kk rfl)
 have k06 := k03.trans k6
 have hM6 := h.k0 k06
 have f0 := hW6.cells 0 rfl
 have f1 := hW6.cells 1 rfl
 have f2 := hW6.cells 2 rfl
 have fn1 := (k23.trans k6).blk d0 (fun h => h)
 have fn := (k23.trans k6).blk d1 (fun h => h)
 obtain ⟨cc, hcc⟩ := own_type hM6.ew (k := b) (by rw [hp]; rfl)
 obtain ⟨g6, hg6, hwr6⟩ := own_wrc hM6.ew hlt (j := 54) (by decide)
 rw [hp] at hg6
 simp only [Option.some.injEq, Addr.mk.injEq, and_true] at hg6
 subst hg6
 have nmb : m ≠ b := fun e => by have h9 := hM6.st; rw [e, hcc] at h9; cases h9
 have nnb : n ≠ b := blk_ne fn hcc rfl
 have cE6 : ∀ wx, Kp (· = b) W6 wx -> wx.cell? ⟨m, 0 + 3, none⟩ = some (.slice P.ep M.es.length P.ec) := fun wx k => k.cell' hM6.cE nmb
 refine ⟨fun wx => Kp (· = b) W6 wx, .refl _ _, _, _, _, cE6, _, _, _, cE6, _, _, _, cE6, a, fun wx k => AtL_block (k.blk fn nnb) rfl, nn_is hp ⟨⟨by omega, by omega⟩, hwr6, fun w7 p7 => ⟨p7.kp, ?_⟩⟩⟩
 obtain ⟨hM7, k7⟩ := hM6.part hy hp (by show 54 + 1 <= 72; omega) (put_leE y true) p7
 have hi7 : i < (M.es.set i { y with le := true }).length := by rw [List.length_set]; exact hlt
 obtain ⟨g7, hg7, hwr7⟩ := own_wrp hM7.ew hi7 (j := 55) (m := 16) (by decide)
 rw [hp] at hg7
 simp only [Option.some.injEq, Addr.mk.injEq, and_true] at hg7
 subst hg7
 refine nn_is hp ⟨⟨by omega, by omega⟩, hwr7, fun w8 p8 => ?_⟩
 obtain ⟨hM8, k8⟩ := hM7.part (i := i) (y := { y with le := true }) (by show (M.es.set i _)[i]? = _; rw [List.getElem?_set]; simp [hlt]) hp (by show 55 + 16 <= 72; omega) (put_ho { y with le := true } a) p8
 have hi8 : i < ((M.es.set i { y with le := true }).set i { y with le := true, ho := a }).length := by rw [List.length_set, List.length_set]; exact hlt
 obtain ⟨g8, hg8, hwr8⟩ := own_wrc hM8.ew hi8 (j := 71) (by decide)
 rw [hp] at hg8
 simp only [Option.some.injEq, Addr.mk.injEq, and_true] at hg8
 subst hg8
 refine nn_is hp ⟨⟨by omega, by omega⟩, hwr8, fun w9 p9 => ?_⟩
 obtain ⟨hM9, k9⟩ := hM6.lease hy hp p7 p8 p9
 have kp9 : Kp (· = b) W6 w9 := (p7.kp.trans p8.kp).trans p9.kp
 have n1b : n1 ≠ b := blk_ne fn1 hcc rfl
 have gn1' := kp9.blk fn1 n1b
 refine ⟨.of_kp kp9 (fun z hz e => ?_), WrL_block gn1' (by show 0 + 54 <= 54; omega), fun wa pa => ⟨.of_kp pa.kp (fun z hz e => ?_), y.s.id, y.s.g, y.s.tx, y.s.r, y.s.st, y.s.mo, y.s.de, y.s.rs, ?_, rfl, ?_, ?_⟩⟩
 ·simp only [List.mem_cons, List.not_mem_nil, or_false] at hz
  rcases hz with rfl | rfl | rfl
  ·exact nnb e
  ·exact blk_ne f1 hcc rfl e
  ·exact n4b e
 ·simp only [List.mem_cons, List.not_mem_nil, or_false] at hz
  rcases hz with rfl | rfl | rfl
  ·exact blk_ne fn fn1 rfl e
  ·exact blk_ne f1 fn1 rfl e
  ·exact blk_ne f2 fn1 rfl e
 ·have pa' : PutB w9 n1 0 (sbC y.s) wa := pa
  exact AtL_block (pa'.full gn1' rfl) rfl
 ·exact hM9.off pa.kp (fun k e => by have e : k = n1 := e; rw [e]; exact ⟨_, _, gn1'⟩) rfl
 ·exact ((Kp.mf0 k06).mft k9).fresh pa.kp (fun k hk e => by have e : k = n1 := e; omega)
end Go.Proofs.YtfacflbmlfbeeaaGreatDoor
namespace Go.Proofs.YtfacflbmlfbeeaaGreatDoor
open Go.RowKit Go.Sort Go.Maps
def lpF (last now : Int) (x : En) : En := if lapP last x = true then plainE (fin3 now x.s) else x
def xlpM (M : Mo) (now : Int) : Mo := if minB now = true then { M with es := M.es.map (lpF (now - M.days * 1440) now) } else M
def xlpL (M : Mo) (now : Int) : List Sb := if minB now = true then (M.es.filter (lapP (now - M.days * 1440))).map (fun x => fin3 now x.s) else []
theorem map_step {α : Type} (F : α -> α) {l : List α} {i : Nat} {x : α} (h : l[i]? = some x) (hF : F x = x) : (l.take i).map F ++ l.drop i = (l.take (i + 1)).map F ++ l.drop (i + 1) := by
 have hi := (List.getElem?_eq_some_iff.1 h).1
 have e : l.drop i = x :: l.drop (i + 1) := by
  rw [List.drop_eq_getElem_cons hi]
  rw [List.getElem?_eq_getElem hi] at h
  cases h; rfl
 rw [e, take_snoc h, List.map_append, List.append_assoc]
 simp [hF]
theorem map_at {α : Type} (F : α -> α) {l : List α} {i : Nat} {x : α} (h : l[i]? = some x) : ((l.take i).map F ++ l.drop i)[i]? = some x := by
 have hi := (List.getElem?_eq_some_iff.1 h).1
 rw [List.getElem?_append_right (by simp; omega)]
 simp only [List.length_map, List.length_take]
 rw [show i - min i l.length = 0 by omega, List.getElem?_drop]
 simpa using h
theorem map_len {α : Type} (F : α -> α) (l : List α) (i : Nat) : ((l.take i).map F ++ l.drop i).length = l.length := by simp; omega
set_option maxHeartbeats 4000000 in
set_option maxRecDepth 100000 in
theorem xlapse_any {w : World} {B m : Nat} {M : Mo} {P : Pl} (h : MoR w B m M P) (ho : M.OK) (now : Int) :
  Calls Tryz.prog 35 #[.pointer (some ⟨m, 0, none⟩), .int .i64 now] w fun e w' => (∃ (p : Option Addr) (c : Nat), e = .returned (.slice p (xlpL M now).length c) /\ w'.ownsRow w.heap.size 48 54 (.slice p (xlpL M now).length c) (xlpL M now).length ((xlpL M now).flatMap sbC)) /\ MoR w' B m (xlpM M now) P /\ Kp (MF w B) w w' := by
 have hel := ho.el
 have hday := ho.days
 have hBw : B <= w.heap.size := Nat.le_of_lt (Nat.lt_of_le_of_lt h.ge (block_lt h.st))
 refine vc_xlapse m now w _ ?_
 refine ⟨fun vs w' => ∃ (i : Nat) (p : Option Addr) (c : Nat) (out : List Sb), vs = [.int .i64 (i : Int), .slice p out.length c] /\ i <= M.es.length /\ (i = 0 \/ minB now = true) /\ out.length <= i /\ out = ((M.es.take i).filter (lapP (now - M.days * 1440))).map (fun x => fin3 now x.s) /\ w'.ownsRow w.heap.size 48 54 (.slice p out.length c) out.length (out.flatMap sbC) /\ MoR w' B m { M with es := (M.es.take i).map (lpF (now - M.days * 1440) now) ++ M.es.drop i } P /\ Kp (MF w B) w w',
  fun vs _ => (match vs with | .int _ a :: _ => M.es.length - a.toNat | _ => 0), ⟨0, none, 0, [], rfl, by omega, .inl rfl, Nat.le_refl _, rfl, World.ownsRow_nil _ _ _ _, by simpa using h, .refl _ _⟩, ?_⟩
 rintro x p n c w1 ⟨i, p', c', out, hv, hi, hmi, hol, hout, hown, h1, k1⟩
 simp only [List.cons.injEq, Value.int.injEq, Value.slice.injEq, true_and, and_true] at hv
 obtain ⟨rfl, rfl, rfl, rfl⟩ := hv
 have hlen := map_len (lpF (now - M.days * 1440) now) M.es i
 have fin : i = M.es.length -> ∀ {w2 : World}, K0 w1 w2 -> (∃ (p' : Option Addr) (c' : Nat), Ending.returned (.slice p out.length c) = .returned (.slice p' (xlpL M now).length c') /\ w2.ownsRow w.heap.size 48 54 (.slice p' (xlpL M now).length c') (xlpL M now).length ((xlpL M now).flatMap sbC)) /\ MoR w2 B m (xlpM M now) P /\ Kp (MF w B) w w2 := fun hi2 w2 k2 => by
  subst hi2
  rw [List.take_length] at hout h1
  rw [List.drop_length, List.append_nil] at h1
  have eL : xlpL M now = out := by
   unfold xlpL
   rcases hmi with h0 | hm
   ·have : M.es = [] := List.eq_nil_of_length_eq_zero h0
    rw [hout, this]; simp
   ·rw [if_pos hm, hout]
  have eM : xlpM M now = { M with es := M.es.map (lpF (now - M.days * 1440) now) } := by
   unfold xlpM
   rcases hmi with h0 | hm
   ·have he : M.es = [] := List.eq_nil_of_length_eq_zero h0
    split
    ·rfl
    ·obtain ⟨a, b, c, d⟩ := M
     simp only at he
     subst he
     rfl
   ·rw [if_pos hm]
  rw [eL, eM]
  exact ⟨⟨p, c, rfl, owns_kp hown k2 (fun _ _ h => h)⟩, h1.k0 k2, k1.mft (.mf0 k2)⟩
 refine ⟨_, _, _, h1.cE, bsp_intro (fun hlt => ?_) (fun hge => ?_)⟩
 rotate_left
 ·have hi2 : i = M.es.length := by rw [hlen] at hge; simp at hge; omega
  exact ⟨.refl _ _, fin hi2 (.refl _ _)⟩
 have hlt : i < M.es.length := by rw [hlen] at hlt; simp at hlt; omega
 refine ⟨(xmin_any now w1).mono fun e w2 ⟨he, k2⟩ => ⟨_, he, .of_k0 k2, bsp_intro (fun hm => ?_) (fun hm => ?_)⟩⟩
 rotate_left
 ·have hm : minB now = false := by simpa using hm
  have h0 : i = 0 := by
   rcases hmi with h0 | h0
   ·exact h0
   ·rw [hm] at h0; cases h0
  subst h0
  have eL : xlpL M now = [] := by unfold xlpL; rw [if_neg (by rw [hm]; decide)]
  have eM : xlpM M now = M := by unfold xlpM; rw [if_neg (by rw [hm]; decide)]
  have hon : out = [] := by rw [hout]; simp
  subst hon
  rw [eL, eM]
  have h1 : MoR w1 B m M P := by simpa using h1
  exact ⟨⟨p, c, rfl, owns_kp hown k2 (fun _ _ h => h)⟩, h1.k0 k2, k1.mft (.mf0 k2)⟩
 have hm : minB now = true := by simpa using hm
 have hnow := minB_iff.1 hm
 have h2 := h1.k0 k2
 obtain ⟨x, hx⟩ : ∃ x, M.es[i]? = some x := ⟨_, List.getElem?_eq_getElem hlt⟩
 have hxi := map_at (lpF (now - M.days * 1440) now) hx
 have hlt' : i < ((M.es.take i).map (lpF (now - M.days * 1440) now) ++ M.es.drop i).length := by rw [hlen]; exact hlt
 obtain ⟨y, b, o, hy, hp, hat⟩ := h2.rowE.get hlt'
 have hy : ((M.es.take i).map (lpF (now - M.days * 1440) now) ++ M.es.drop i)[i]? = some y := hy
 rw [hxi] at hy
 cases hy
 rw [Int.toNat_natCast]
 have hst : w2.cell? ⟨b, o + i * 72 + 35, none⟩ = some (.int .i64 x.s.st) := hat.cell (j := 35) rfl
 have hrr : w2.cell? ⟨b, o + i * 72 + 34, none⟩ = some (.int .i64 x.s.r) := hat.cell (j := 34) rfl
 have hsn : ((M.es.take (i + 1)).filter (lapP (now - M.days * 1440))).map (fun x => fin3 now x.s) = out ++ (if lapP (now - M.days * 1440) x = true then [fin3 now x.s] else []) := by
  rw [take_snoc hx, List.filter_append, List.map_append, List.filter_cons, List.filter_nil, <- hout]
  split <;> rfl
 have elast : IntKind.i64.wrap (now - IntKind.i64.wrap (M.days * 1440)) = now - M.days * 1440 := by rw [wr64 (x := M.days * 1440) (by omega) (by omega), wr64 (by omega) (by omega)]
 have hltI : (i : Int) < ((((M.es.take i).map (lpF (now - M.days * 1440) now) ++ M.es.drop i).length : Nat) : Int) := by omega
 refine ⟨_, _, _, fun W hW => (h2.k0 (hW.kk rfl)).cE, nn_is hp ⟨⟨by omega, hltI⟩, x.s.st, fun W hW => (hW.kk rfl : K0 w2 W).cell' hst (fun h => h), _, _, _, gimp_intro fun _ W hW => (h2.k0 (hW.kk rfl)).cE, nn_is hp ⟨gimp_intro fun _ => ⟨by omega, hltI⟩, x.s.r, gimp_intro fun _ W hW => (hW.kk rfl : K0 w2 W).cell' hrr (fun h => h), M.days, gimp_intro fun _ W hW => (h2.k0 (hW.kk rfl)).cD, ?_⟩⟩⟩
 rw [elast]
 have ec : (x.s.st == 0 && decide (x.s.r <= now - M.days * 1440)) = lapP (now - M.days * 1440) x := rfl
 rw [ec]
 have k12 := k1.mft (.mf0 k2)
 refine bsp_intro (fun hl W hW => ?_) (fun hl W hW => ?_)
 rotate_left
 ·have kW : K0 w2 W := hW.kk rfl
  rw [if_neg (by rw [hl]; decide), List.append_nil] at hsn
  have hF : lpF (now - M.days * 1440) now x = x := by unfold lpF; rw [if_neg (by rw [hl]; decide)]
  have h3 := h2.k0 kW
  rw [map_step _ hx hF] at h3
  rw [inc64 (by omega)]
  exact ⟨⟨i + 1, p, c, out, rfl, hlt, .inr hm, by omega, hsn.symm, owns_kp hown (k2.trans kW) (fun _ _ h => h), h3, k12.mft (.mf0 kW)⟩, by simp only [Int.toNat_natCast]; omega⟩
 rw [if_pos hl] at hsn
 have hF : lpF (now - M.days * 1440) now x = plainE (fin3 now x.s) := by unfold lpF; rw [if_pos hl]
 have kW : K0 w2 W := hW.kk rfl
 have h3 := h2.k0 kW
 have hownW := owns_kp hown (k2.trans kW) (fun _ _ h => h)
 refine ⟨(xend_any h3 hxi 3 (fun _ => 0) ⟨#[]⟩ now).mono fun e w4 ⟨he, h4, k4⟩ => ⟨he, .of_kp k4 (fun z hz => by cases hz), ?_⟩⟩
 have hsm := set_mid (lpF (now - M.days * 1440) now) M.es i x hx
 rw [hF] at hsm
 have h4 : MoR w4 B m { M with es := ((M.es.take i).map (lpF (now - M.days * 1440) now) ++ M.es.drop i).set i (plainE (fin3 now x.s)) } P := h4
 rw [hsm] at h4
 have hlen4 := map_len (lpF (now - M.days * 1440) now) M.es (i + 1)
 have hlt4 : i < ((M.es.take (i + 1)).map (lpF (now - M.days * 1440) now) ++ M.es.drop (i + 1)).length := by rw [hlen4]; exact hlt
 obtain ⟨y, b4, o4, hy4, hp4, hat4⟩ := h4.rowE.get hlt4
 have hy4 : ((M.es.take (i + 1)).map (lpF (now - M.days * 1440) now) ++ M.es.drop (i + 1))[i]? = some y := hy4
 rw [<- hsm, List.getElem?_set, if_pos rfl, if_pos (by rw [hlen]; exact hlt)] at hy4
 cases hy4
 have hat4 := sb_left _ hat4
 have hat4 : AtL w4 b4 (o4 + i * 72) (sbC (fin3 now x.s)) := hat4
 have hown4 := owns_kp hownW k4 (fun k hk => by
  obtain ⟨cc, hcc⟩ := own_type hownW hk
  exact mf_no hcc (by decide))
 generalize hX : fin3 now x.s = X at *
 have hltI4 : (i : Int) < ((((M.es.take (i + 1)).map (lpF (now - M.days * 1440) now) ++ M.es.drop (i + 1)).length : Nat) : Int) := by omega
 refine ⟨_, _, _, h4.cE, nn_is hp4 ⟨⟨by omega, hltI4⟩, X.id, X.g, X.tx, X.r, X.st, X.mo, X.de, X.rs, hat4, fun n5 W5 hW5 => ?_⟩⟩
 have k5 : K0 w4 W5 := hW5.kk rfl
 have h5 := h4.k0 k5
 have hown5 := owns_kp hown4 k5 (fun _ _ h => h)
 have ks : w.heap.size <= W5.heap.size := Nat.le_trans k1.size (Nat.le_trans k2.size (Nat.le_trans kW.size (Nat.le_trans k4.size k5.size)))
 have e1 : out.length + 1 = (out ++ [X]).length := by simp
 have e2 : (out ++ [X]).flatMap sbC = out.flatMap sbC ++ sbC X := by rw [List.flatMap_append]; simp [List.flatMap_cons]
 refine ⟨w.heap.size, _, hown5, by omega, by omega, ks, fun p6 c6 w6 ho6 hg6 _ => ?_⟩
 have kg := kp_grown hg6
 have h6 := h5.off kg (fun k hk => by
  obtain ⟨cc, hcc⟩ := own_type hown5 hk
  exact ⟨cc, _, hcc⟩) rfl
 have k05 : Kp (MF w B) w W5 := ((k12.mft (.mf0 kW)).mft k4).mft (.mf0 k5)
 rw [inc64 (by omega)]
 refine ⟨.of_kp kg (fun z hz => by cases hz), ⟨i + 1, p6, c6, out ++ [X], by rw [e1], hlt, .inr hm, by rw [<- e1]; omega, hsn.symm, by rw [<- e1, e2]; exact ho6, h6, k05.fresh kg (fun k hk e => by have := own_ge hown5 e; omega)⟩, by simp only [Int.toNat_natCast]; omega⟩
def kpP (bf : Int) (x : En) : Bool := x.s.st == 0 || decide (x.s.de ≥ bf)
set_option maxHeartbeats 4000000 in
set_option maxRecDepth 100000 in
theorem xforget_any {w : World} {B m : Nat} {M : Mo} {P : Pl} (h : MoR w B m M P) (hel : M.es.length <= 1000000) (bf : Int) :
  Calls Tryz.prog 64 #[.pointer (some ⟨m, 0, none⟩), .int .i64 bf] w fun e w' => e = .returned (.int .i64 ((M.es.length : Int) - ((M.es.filter (kpP bf)).length : Nat))) /\ (∃ P', MoR w' B m { M with es := M.es.filter (kpP bf) } P') /\ Kp (MF w B) w w' := by
 have hBw : B <= w.heap.size := Nat.le_of_lt (Nat.lt_of_le_of_lt h.ge (block_lt h.st))
 refine vc_xforget m bf w _ ?_
 refine ⟨fun vs w' => ∃ (i : Nat) (p : Option Addr) (c : Nat) (out : List En), vs = [.int .i64 (i : Int), .slice p out.length c] /\ i <= M.es.length /\ out.length <= i /\ out = (M.es.take i).filter (kpP bf) /\ w'.ownsRow w.heap.size 91 72 (.slice p out.length c) out.length (out.flatMap enC) /\ K0 w w',
  fun vs _ => (match vs with | .int _ a :: _ => M.es.length - a.toNat | _ => 0), ⟨0, none, 0, [], rfl, by omega, Nat.le_refl _, rfl, World.ownsRow_nil _ _ _ _, .refl _ _⟩, ?_⟩
 rintro x p n c w1 ⟨i, p', c', out, hv, hi, hol, hout, hown, k1⟩
 simp only [List.cons.injEq, Value.int.injEq, Value.slice.injEq, true_and, and_true] at hv
 obtain ⟨rfl, rfl, rfl, rfl⟩ := hv
 have h1 := h.k0 k1
 refine ⟨_, _, _, h1.cE, bsp_intro (fun hlt => ?_) (fun hge => ?_)⟩
 ·have hlt : i < M.es.length := by simp at hlt; omega
  obtain ⟨y, b, o, hy, hp, hat⟩ := h1.rowE.get hlt
  rw [Int.toNat_natCast]
  have hst : w1.cell? ⟨b, o + i * 72 + 35, none⟩ = some (.int .i64 y.s.st) := hat.cell (j := 35) rfl
  have hde : w1.cell? ⟨b, o + i * 72 + 52, none⟩ = some (.int .i64 y.s.de) := hat.cell (j := 52) rfl
  have hsn : (M.es.take (i + 1)).filter (kpP bf) = out ++ (if kpP bf y = true then [y] else []) := by
   rw [take_snoc hy, List.filter_append, List.filter_cons, List.filter_nil, <- hout]
  refine ⟨_, _, _, h1.cE, nn_is hp ⟨⟨by omega, by omega⟩, y.s.st, hst, _, _, _, gimp_intro fun _ => h1.cE, nn_is hp ⟨gimp_intro fun _ => ⟨by omega, by omega⟩, y.s.de, gimp_intro fun _ => hde, ?_⟩⟩⟩
  have ec : (y.s.st == 0 || decide (y.s.de ≥ bf)) = kpP bf y := rfl
  rw [ec]
  refine bsp_intro (fun hb => ⟨_, _, _, h1.cE, nn_is hp ⟨⟨by omega, by omega⟩, y.s.id, y.s.g, y.s.tx, y.s.r, y.s.st, y.s.mo, y.s.de, y.s.rs, y.le, y.ho, y.si, hat, fun n5 W hW => ?_⟩⟩) (fun hb => ?_)
  ·rw [if_pos hb] at hsn
   have kW : K0 w1 W := hW.kk rfl
   have e1 : out.length + 1 = (out ++ [y]).length := by simp
   have e2 : (out ++ [y]).flatMap enC = out.flatMap enC ++ enC y := by rw [List.flatMap_append]; simp [List.flatMap_cons]
   have hownW := owns_kp hown kW (fun _ _ h => h)
   refine ⟨w.heap.size, _, hownW, by omega, by omega, Nat.le_trans k1.size kW.size, fun p' c' w2 ho2 hg2 _ => ?_⟩
   have k2 : K0 w w2 := (k1.trans kW).fresh (kp_grown hg2) (fun j hj e => by have := own_ge hownW e; omega)
   rw [inc64 (by omega)]
   refine ⟨.of_kp (kp_grown hg2) (fun z hz => by cases hz), ⟨i + 1, p', c', out ++ [y], by rw [e1], hlt, by rw [<- e1]; omega, hsn.symm, by rw [<- e1, e2]; exact ho2, k2⟩, by simp only [Int.toNat_natCast]; omega⟩
  ·rw [if_neg (by rw [hb]; decide), List.append_nil] at hsn
   rw [inc64 (by omega)]
   exact ⟨⟨i + 1, p, c, out, rfl, hlt, by omega, hsn.symm, hown, k1⟩, by simp only [Int.toNat_natCast]; omega⟩
 ·have hi2 : i = M.es.length := by simp at hge; omega
  subst hi2
  rw [List.take_length] at hout
  rw [<- hout]
  refine ⟨_, _, _, h1.cE, cell_wr h1.st (by show 0 + 3 < 4; omega), fun w2 p2 => ⟨.of_kp p2.kp (fun z hz => by cases hz), ?_⟩⟩
  obtain ⟨h2, k2⟩ := h1.newe (own_base hown hBw) p2
  rw [wr64 (by omega) (by omega)]
  exact ⟨rfl, ⟨_, h2⟩, (Kp.mf0 k1).mft k2⟩
end Go.Proofs.YtfacflbmlfbeeaaGreatDoor
namespace Go.Proofs.YtfacflbmlfbeeaaGreatDoor
open Go.RowKit Go.Sort Go.Maps
theorem ext8 {s t : ByteArray} (hs : s.size = t.size) (h : ∀ j, j < s.size -> at8 s j = at8 t j) : s = t := ba_eq (List.ext_getElem? fun j => by
 rcases Nat.lt_or_ge j s.size with hj | hj
 ·rw [at8_byte hj, at8_byte (by omega), h j hj]
 ·rw [List.getElem?_eq_none (by simpa using hj), List.getElem?_eq_none (by rw [hs] at hj; simpa using hj)])
theorem partsD_ne (s : ByteArray) : partsD s ≠ [] := fun e => by
 have h := partsD_len (s := s)
 rw [e] at h; simp at h
theorem partsD_inj : ∀ (n : Nat) (s t : ByteArray), s.size <= n -> partsD s = partsD t -> s = t
 | n, s, t, hn, h => by
  have fs := findC_first 46 s
  have ft := findC_first 46 t
  by_cases hi : findC 46 s < s.size
  ·by_cases hj : findC 46 t < t.size
   ·rw [partsD_hit fs hi, partsD_hit ft hj] at h
    obtain ⟨h1, h2⟩ := List.cons.inj h
    cases n with
    | zero => omega
    | succ n =>
     have hz : (s.extract (findC 46 s + 1) s.size).size = s.size - (findC 46 s + 1) := by rw [ByteArray.size_extract]; omega
     have hz2 : (t.extract (findC 46 t + 1) t.size).size = t.size - (findC 46 t + 1) := by rw [ByteArray.size_extract]; omega
     have h3 := partsD_inj n _ _ (by omega) h2
     have z1 : (s.extract 0 (findC 46 s)).size = findC 46 s := by rw [ByteArray.size_extract]; omega
     have z2 : (t.extract 0 (findC 46 t)).size = findC 46 t := by rw [ByteArray.size_extract]; omega
     have ez : findC 46 s = findC 46 t := by rw [<- z1, h1, z2]
     have e3 : s.size = t.size := by rw [h3] at hz; omega
     refine ext8 e3 fun j hj2 => ?_
     rcases Nat.lt_trichotomy j (findC 46 s) with hl | hl | hl
     ·have a1 := at8_extract s 0 (findC 46 s) j (by omega) (by omega)
      have a2 := at8_extract t 0 (findC 46 t) j (by omega) (by omega)
      rw [Nat.zero_add] at a1 a2
      rw [<- a1, <- a2, h1]
     ·rw [hl, fs.2.2.2 hi, ez, ft.2.2.2 hj]
     ·have a1 := at8_extract s (findC 46 s + 1) s.size (j - (findC 46 s + 1)) (by omega) (Nat.le_refl _)
      have a2 := at8_extract t (findC 46 t + 1) t.size (j - (findC 46 t + 1)) (by omega) (Nat.le_refl _)
      rw [show findC 46 s + 1 + (j - (findC 46 s + 1)) = j by omega] at a1
      rw [show findC 46 t + 1 + (j - (findC 46 t + 1)) = j by omega] at a2
      rw [<- a1, <- a2, h3, ez]
   ·rw [partsD_hit fs hi, partsD_miss ft hj] at h
    exact absurd (List.cons.inj h).2 (partsD_ne _)
  ·by_cases hj : findC 46 t < t.size
   ·rw [partsD_miss fs hi, partsD_hit ft hj] at h
    exact absurd (List.cons.inj h).2.symm (partsD_ne _)
   ·rw [partsD_miss fs hi, partsD_miss ft hj] at h
    exact (List.cons.inj h).1
theorem ky_eq {x y : Sb} (hx : BY x.id) (hy : BY y.id) (h : cfM x y = 0) : x.ky = y.ky := by
 unfold cfM at h
 split at h
 ·contradiction
 ·unfold cfI at h
  split at h
  ·contradiction
  ·rename_i h1
   have e1 : idB x.id = idB y.id := cb_zero _ _ (by simpa using h1)
   have e2 : x.g = y.g := partsD_inj _ _ _ (Nat.le_refl _) (lsC_zero _ _ h)
   unfold Sb.ky
   rw [idB_inj39 hx hy e1, e2]
theorem perm_uniq39 {α : Type} {R : α -> α -> Prop} : ∀ {l1 l2 : List α}, l1.Perm l2 -> l1.Pairwise R -> l2.Pairwise R -> (∀ a ∈ l1, ∀ b ∈ l1, R a b -> R b a -> a = b) -> l1 = l2
 | [], l2, hp, _, _, _ => (List.nil_perm.1 hp).symm
 | a :: r, [], hp, _, _, _ => by have := hp.length_eq; simp at this
 | a :: r, b :: s, hp, h1, h2, anti => by
  have hab : a = b := Classical.byContradiction fun hne => by
   have h3 : a ∈ s := by
    rcases List.mem_cons.1 (hp.subset List.mem_cons_self) with h | h
    ·exact absurd h hne
    ·exact h
   have h4 : b ∈ r := by
    rcases List.mem_cons.1 (hp.symm.subset List.mem_cons_self) with h | h
    ·exact absurd h.symm hne
    ·exact h
   exact hne (anti a List.mem_cons_self b (List.mem_cons_of_mem _ h4) ((List.pairwise_cons.1 h1).1 b h4) ((List.pairwise_cons.1 h2).1 a h3))
  subst hab
  rw [perm_uniq39 (List.Perm.cons_inv hp) (List.pairwise_cons.1 h1).2 (List.pairwise_cons.1 h2).2 fun x hx y hy => anti x (List.mem_cons_of_mem _ hx) y (List.mem_cons_of_mem _ hy)]
def fdL (es : List En) (k : Ky) : Option En := es.find? fun y => decide (y.s.ky = k)
theorem fd_iff {es : List En} (hd : DisK es) {k : Ky} {e : En} : fdL es k = some e ↔ e ∈ es /\ e.s.ky = k := by
 constructor
 ·intro h
  exact ⟨List.mem_of_find?_eq_some h, by simpa using List.find?_some h⟩
 ·rintro ⟨hm, hk⟩
  obtain ⟨i, hi⟩ := List.mem_iff_getElem?.1 hm
  exact dis_fd hd hi hk
theorem ag_iff {β : Type} {l : List (Ky × β)} (hd : l.Pairwise fun p q => p.1 ≠ q.1) {k : Ky} {e : β} : aget l k = some e ↔ (k, e) ∈ l := ⟨aget_mem, aget_at hd⟩
theorem opt_ext {α : Type} {a b : Option α} (h : ∀ e, a = some e ↔ b = some e) : a = b := by
 cases a with
 | none => cases b with
  | none => rfl
  | some y => exact ((h y).2 rfl)
 | some x => exact ((h x).1 rfl).symm
theorem ag_perm {l m : List (Ky × En)} (hl : l.Pairwise fun p q => p.1 ≠ q.1) (hm : m.Pairwise fun p q => p.1 ≠ q.1) (h : ∀ k, aget l k = aget m k) : l.Perm m := by
 have n1 : l.Nodup := hl.imp fun h e => h (by rw [e])
 have n2 : m.Nodup := hm.imp fun h e => h (by rw [e])
 refine (List.perm_ext_iff_of_nodup n1 n2).2 fun ⟨k, e⟩ => ?_
 rw [<- ag_iff hl, <- ag_iff hm, h]
def prL (es : List En) : List (Ky × En) := es.map fun x => (x.s.ky, x)
theorem pr_dis {es : List En} (h : DisK es) : (prL es).Pairwise fun p q => p.1 ≠ q.1 := List.pairwise_map.2 h
theorem pr_get {es : List En} (h : DisK es) (k : Ky) : aget (prL es) k = fdL es k := opt_ext fun e => by
 rw [ag_iff (pr_dis h), fd_iff h]
 unfold prL
 constructor
 ·intro hm
  obtain ⟨x, hx, e1⟩ := List.mem_map.1 hm
  cases e1
  exact ⟨hx, rfl⟩
 ·rintro ⟨hx, rfl⟩
  exact List.mem_map.2 ⟨e, hx, rfl⟩
theorem pw_get {α : Type} {R : α -> α -> Prop} {l : List α} (h : l.Pairwise R) {i j : Nat} {x y : α} (hx : l[i]? = some x) (hy : l[j]? = some y) (hij : i < j) : R x y := by
 obtain ⟨hi, rfl⟩ := List.getElem?_eq_some_iff.1 hx
 obtain ⟨hj, rfl⟩ := List.getElem?_eq_some_iff.1 hy
 exact List.pairwise_iff_getElem.1 h i j hi hj hij
structure Rq (n : Nat) (q : Qu) (M : Mo) : Prop where
 qo : q.OK
 room : M.room = q.room
 days : M.days = q.days
 qd : q.es.Pairwise fun p r => p.1 ≠ r.1
 dis : DisK M.es
 fd : ∀ k, fdL M.es k = aget q.es k
 srt : M.es.Pairwise fun x y => cfM x.s y.s < 0
 ms : ∀ g, (q.md g).l = (M.md g).l
 gs : ∀ y ∈ M.gs, (∀ z ∈ y.x.l, BY z /\ NZ 16 z) /\ y.x.l.length <= 8
 gl : M.gs.length <= n
 el : M.es.length <= n
 le : ∀ x ∈ M.es, x.le = true -> x.s.st = 0
theorem Rq.mono {n m : Nat} {q : Qu} {M : Mo} (h : Rq n q M) (hnm : n <= m) : Rq m q M := { h with gl := Nat.le_trans h.gl hnm, el := Nat.le_trans h.el hnm }
theorem Rq.perm {n : Nat} {q : Qu} {M : Mo} (h : Rq n q M) : q.es.Perm (prL M.es) := ag_perm h.qd (pr_dis h.dis) fun k => by rw [pr_get h.dis, h.fd]
theorem Rq.ql {n : Nat} {q : Qu} {M : Mo} (h : Rq n q M) : q.es.length <= n := by have := h.perm.length_eq; unfold prL at this; rw [List.length_map] at this; have := h.el; omega
theorem Rq.get {n : Nat} {q : Qu} {M : Mo} (h : Rq n q M) {x : En} (hx : x ∈ M.es) : aget q.es x.s.ky = some x := by rw [<- h.fd, fd_iff h.dis]; exact ⟨hx, rfl⟩
theorem Rq.mo {n : Nat} {q : Qu} {M : Mo} (h : Rq n q M) (hn : n <= 100000) : M.OK where
 days := by rw [h.days]; exact h.qo.days
 el := Nat.le_trans h.el hn
 gl := Nat.le_trans h.gl hn
 es := fun y hy => by
  have := h.qo.es _ _ (h.get hy)
  exact ⟨this.1, Nat.le_trans (gnE_sz39 this.2.2.1) (by omega)⟩
 dis := h.dis
 gs := h.gs
theorem Rq.sel {n : Nat} {q : Qu} {M : Mo} (h : Rq n q M) (P : En -> Bool) : (selE P q.es).Perm ((M.es.filter P).map (·.s)) := by
 unfold selE
 have h1 := (h.perm.filter fun p => P p.2).map (·.2.s)
 have e : ((prL M.es).filter fun p => P p.2).map (·.2.s) = (M.es.filter P).map (·.s) := by
  unfold prL
  rw [List.filter_map, List.map_map]
  rfl
 rw [e] at h1
 exact h1
theorem srt_tot {es : List En} (h : es.Pairwise fun x y => cfM x.s y.s < 0) {x y : En} (hx : x ∈ es) (hy : y ∈ es) (h1 : ¬ cfM x.s y.s < 0) (h2 : ¬ cfM y.s x.s < 0) : x = y := by
 obtain ⟨i, hi⟩ := List.mem_iff_getElem?.1 hx
 obtain ⟨j, hj⟩ := List.mem_iff_getElem?.1 hy
 rcases Nat.lt_trichotomy i j with hl | hl | hl
 ·exact absurd (pw_get h hi hj hl) h1
 ·subst hl; rw [hi] at hj; cases hj; rfl
 ·exact absurd (pw_get h hj hi hl) h2
theorem Rq.uniq {n : Nat} {q : Qu} {M : Mo} (h : Rq n q M) {P : En -> Bool} {l : List Sb} (hp : l.Perm (selE P q.es)) (hs : l.Pairwise fun x y => ¬ cfM y x < 0) : l = (M.es.filter P).map (·.s) := by
 have hp2 := hp.trans (h.sel P)
 have hsub : ∀ a ∈ l, ∃ x ∈ M.es, x.s = a := fun a ha => by
  obtain ⟨x, hx, e⟩ := List.mem_map.1 (hp2.subset ha)
  exact ⟨x, (List.mem_filter.1 hx).1, e⟩
 refine perm_uniq39 (R := fun x y => ¬ cfM y x < 0) hp2 hs ?_ ?_
 ·refine List.pairwise_map.2 ((h.srt.sublist List.filter_sublist).imp fun {a b} hab hc => ?_)
  have := cfM_ord.anti a.s b.s
  omega
 ·intro a ha b hb h1 h2
  obtain ⟨x, hx, rfl⟩ := hsub a ha
  obtain ⟨y, hy, rfl⟩ := hsub b hb
  rw [srt_tot h.srt hx hy h2 h1]
theorem Rq.any {n : Nat} {q : Qu} {M : Mo} (h : Rq n q M) {x y : En} (hx : x ∈ M.es) (hy : y ∈ M.es) (e : x.s = y.s) : x = y := by
 have h1 := h.get hx
 have h2 := h.get hy
 rw [e, h2] at h1
 cases h1; rfl
theorem Rq.ism {n : Nat} {q : Qu} {M : Mo} (h : Rq n q M) (g : ByteArray) (a : Nat -> Int) : isMB (q.md g) a = isMB (M.md g) a := by unfold isMB; rw [h.ms]
theorem Rq.wt {n : Nat} {q : Qu} {M : Mo} (h : Rq n q M) : q.wt = ((M.ls ⟨#[]⟩ 0).length : Nat) := by
 rw [h.qo.wt]
 have h1 := (h.sel (lsP ⟨#[]⟩ 0)).length_eq
 unfold Mo.ls
 rw [<- h1]
 unfold selE
 rw [List.length_map]
 have : (fun p : Ky × En => lsP ⟨#[]⟩ 0 p.2) = fun p => p.2.s.st == 0 := by
  funext p
  unfold lsP
  simp
 rw [this]
end Go.Proofs.YtfacflbmlfbeeaaGreatDoor
