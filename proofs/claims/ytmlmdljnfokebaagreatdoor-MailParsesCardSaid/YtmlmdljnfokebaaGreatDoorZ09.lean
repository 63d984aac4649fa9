/- Chapter 49: the examples hold (known). The table of powers of ten reads as laid. -/
import Derived.Test.YtmlmdljnfokebaaGreatDoorZ07
import Derived.Test.YtmlmdljnfokebaaGreatDoorZ08
import Derived.Lib.ItoaMem
import Derived.Test.YtmlmdljnfokebaaGreatDoorProg
import Derived.Test.YtmlmdljnfokebaaGreatDoorZ02
import Derived.Test.YtmlmdljnfokebaaGreatDoorZ04
import Derived.KernelRfl
namespace Go.Proofs.YtmlmdljnfokebaaGreatDoor
open Go.RowKit Go.Maps

def km : Ml := ⟨⟨#[97, 110, 110]⟩, ⟨#[97]⟩, ⟨#[98, 111, 98]⟩, ⟨#[98]⟩, 7, 100, ⟨#[72, 105]⟩, [], ⟨#[120]⟩⟩
def kHd : List (ByteArray × ByteArray) := [(⟨#[70, 114, 111, 109]⟩, ⟨#[97, 110, 110, 64, 97]⟩), (⟨#[84, 111]⟩, ⟨#[98, 111, 98, 64, 98]⟩), (⟨#[78, 117, 109, 98, 101, 114]⟩, ⟨#[55]⟩), (⟨#[68, 97, 116, 101]⟩, ⟨#[49, 48, 48]⟩), (⟨#[72, 111, 112, 115]⟩, ⟨#[]⟩), (⟨#[83, 117, 98, 106, 101, 99, 116]⟩, ⟨#[72, 105]⟩)]
def kTx : ByteArray := ⟨#[70, 114, 111, 109, 58, 32, 97, 110, 110, 64, 97, 10, 84, 111, 58, 32, 98, 111, 98, 64, 98, 10, 78, 117, 109, 98, 101, 114, 58, 32, 55, 10, 68, 97, 116, 101, 58, 32, 49, 48, 48, 10, 72, 111, 112, 115, 58, 10, 83, 117, 98, 106, 101, 99, 116, 58, 32, 72, 105, 10]⟩
theorem d_one {n : Nat} (h : n < 10) : decI (n : Int) = ⟨#[UInt8.ofNat (48 + n)]⟩ := by unfold decI; rw [Lib.itoa_nonneg, Lib.decDigits_one h]
theorem d7 : decI 7 = ⟨#[55]⟩ := d_one (n := 7) (by decide)
theorem d8 : decI 8 = ⟨#[56]⟩ := d_one (n := 8) (by decide)
theorem d100 : decI 100 = ⟨#[49, 48, 48]⟩ := by
  show (⟨(Lib.itoa ((100 : Nat) : Int)).toArray⟩ : ByteArray) = _
  rw [Lib.itoa_nonneg, Lib.decDigits, dif_neg (by decide), Lib.decDigits_two (by decide) (by decide)]
  rfl
theorem k_chk : chkM km = 0 := by decide +kernel
theorem k_hd : hdM km = kHd := by
  unfold hdM
  rw [show km.n = 7 from rfl, show km.d = 100 from rfl, d7, d100]
  decide +kernel
theorem k_fpr : fpr kHd ⟨#[]⟩ = (kTx, 0) := by decide +kernel
def kAll : ByteArray := kTx ++ ⟨#[10]⟩ ++ ⟨#[120]⟩
theorem k_pr : prM km = (kAll, 0) := by
  unfold prM
  rw [k_chk, if_neg (by decide), k_hd, k_fpr, if_neg (by decide)]
  rfl
theorem k_site : siteE ⟨#[97]⟩ = 0 := by decide +kernel
def ky : Ml := ⟨⟨#[]⟩, ⟨#[97]⟩, ⟨#[97, 110, 110]⟩, ⟨#[97]⟩, 7, 50, ⟨#[78, 111, 116, 32, 100, 101, 108, 105, 118, 101, 114, 101, 100]⟩, [], ⟨#[98, 111, 98, 64, 98, 32, 56, 10, 72, 105, 10]⟩⟩
theorem k_bd : (km.tu ++ ⟨#[64]⟩ ++ km.ts ++ ⟨#[32]⟩ ++ ⟨#[56]⟩ ++ ⟨#[10]⟩ ++ km.sj ++ ⟨#[10]⟩ : ByteArray) = ⟨#[98, 111, 98, 64, 98, 32, 56, 10, 72, 105, 10]⟩ := by decide +kernel
theorem k_bnc : bncM km ⟨#[97]⟩ 8 50 = some ky := by
  unfold bncM
  rw [if_neg (by decide +kernel), if_neg (by rw [k_chk]; decide), if_neg (by rw [k_site]; decide), d8, k_bd]
  rfl
theorem FailP.more {w w' : World} {b mb : Nat} {site : ByteArray} {last : Int} {l : List (Int × Qd)} {a now code : Int} {e : Ending} (h : FailP w w' b mb site last l a now code false e) {x : Qd} (hx : aget l a = some x) (hm : minB now = true) (hf : x.f + 1 < 8) :
    e = .returned (.tuple #[.int .i64 0, .bool false, .int .i64 0]) ∧ QR w' b mb site last (aset l a ⟨x.m, x.p, x.c, x.f + 1, failD x now⟩) ∧ Kp (fun k => k = b ∨ k = mb) w w' := by
  rcases h with ⟨h, _⟩ | ⟨y, hy, h⟩
  · rw [hx] at h; cases h
  · rw [hx] at hy; cases hy
    rcases h with ⟨h, _⟩ | ⟨_, _, _, h⟩ | ⟨_, h, _⟩ | ⟨_, h, _⟩
    · rw [hm] at h; cases h
    · exact h
    · rcases h with h | h; cases h; omega
    · rcases h with h | h; cases h; omega
theorem FailP.last {w w' : World} {b mb : Nat} {site : ByteArray} {last : Int} {l : List (Int × Qd)} {a now code : Int} {e : Ending} (h : FailP w w' b mb site last l a now code true e) {x : Qd} {y : Ml} (hx : aget l a = some x) (hm : minB now = true) (hy : bncM x.m site code now = some y) :
    e = .returned (.tuple #[.int .i64 (last + 1), .bool true, .int .i64 0]) ∧ (∃ (p' : Option Addr) (c' : Nat), QR w' b mb site (last + 1) (aset (adel l a) (last + 1) ⟨y, p', c', 0, now⟩)) ∧ Kp (fun k => k = b ∨ k = mb) w w' := by
  rcases h with ⟨h, _⟩ | ⟨z, hz, h⟩
  · rw [hx] at h; cases h
  · rw [hx] at hz; cases hz
    rcases h with ⟨h, _⟩ | ⟨_, h, _⟩ | ⟨_, _, h, _⟩ | ⟨_, _, z, h, r⟩
    · rw [hm] at h; cases h
    · cases h
    · rw [hy] at h; cases h
    · rw [hy] at h; cases h; exact r
theorem kp_bm {b mb : Nat} {u v w : World} (h : Kp (fun k => k = b ∨ k = mb) u v) (k : K0 v w) : Kp (fun k => k = b ∨ k = mb) u w := h.trans (Kp.mono k (fun _ _ h => h.elim))
set_option maxRecDepth 100000 in
set_option maxHeartbeats 2000000 in
theorem known_any (w : World) (hT : GT w) : Calls Tryz.prog 13 #[] w fun e w' => e = .returned (.bool true) ∧ K0 w w' := by
  refine vc_lknown w _ (fun n W hW => ?_)
  have kW : K0 w W := hW.kk rfl
  have hnW := block_lt (hW.cells 0 rfl)
  simp only at hnW
  refine ⟨(mprint_any km none 0 W (fun k z hk => by simp [km] at hk) (Nat.le_refl _) (by decide +kernel) (by decide +kernel) (hT.k0 kW)).mono fun e w1 ⟨he, k1⟩ => ?_⟩
  rw [k_pr] at he
  refine ⟨_, _, he, .of_k0 k1, ⟨(newq_any ⟨#[97]⟩ w1).mono fun e w2 ⟨hq, k2⟩ => ?_⟩⟩
  rcases hq with ⟨h, _⟩ | ⟨_, b, mb, he, hQ2, gb, gm⟩
  · exact absurd k_site h
  have k02 := (kW.trans k1).trans k2
  have hnb : n ≠ b := by have := k1.size; omega
  have hnm : n ≠ mb := by have := k1.size; omega
  have gwb : w.heap.size ≤ b := by have := (kW.trans k1).size; omega
  have gwm : w.heap.size ≤ mb := by have := (kW.trans k1).size; omega
  have kept : ∀ (u v : World) (L : List Nat), (∀ x ∈ L, x ≠ b ∧ x ≠ mb) → Kp (fun k => k = b ∨ k = mb) u v → KeptL L u v := fun u v L hL hk => .of_kp hk (fun x hx e => by have := hL x hx; omega)
  refine ⟨_, _, he, .of_k0 k2, ⟨(qadd_any b mb ⟨#[97]⟩ 0 [] km none 0 10 w2 hQ2 (fun k z hk => by simp [km] at hk) (fun _ _ h => by cases h) (Nat.le_refl _) (by decide +kernel) (by decide +kernel) ⟨by decide, by decide⟩).mono fun e w3 hA => ?_⟩⟩
  rcases hA with ⟨_, h, _⟩ | ⟨_, _, _, he, ⟨p3, c3, hQ3⟩, k3⟩
  · exfalso
    rcases h with h | h | h
    · exact h k_chk
    · cases h
    · exact absurd h (by decide)
  have k03 : K0 w w3 := k02.fresh k3 (fun j hj e => by omega)
  refine ⟨_, _, he, kept _ _ _ (fun x hx => by simp at hx; subst hx; exact ⟨hnb, hnm⟩) k3, ?_⟩
  have g3 : aget (aset ([] : List (Int × Qd)) (0 + 1) ⟨km, p3, c3, 0, 10⟩) 1 = some ⟨km, p3, c3, 0, 10⟩ := rfl
  generalize aset ([] : List (Int × Qd)) (0 + 1) ⟨km, p3, c3, 0, 10⟩ = l3 at hQ3 g3
  refine ⟨(qfail_any b mb ⟨#[97]⟩ (0 + 1) l3 1 10 8 false w3 hQ3 ⟨by decide, by decide⟩ ⟨by decide, by decide⟩ ⟨by decide, by decide⟩ (hT.k0 k03)).mono fun e w4 hF => ?_⟩
  obtain ⟨he, hQ4, k4⟩ := hF.more g3 (by decide) (by show (0 : Int) + 1 < 8; decide)
  have k04 : K0 w w4 := k03.fresh k4 (fun j hj e => by omega)
  refine ⟨_, _, _, he, kept _ _ _ (fun x hx => by simp at hx; subst hx; exact ⟨hnb, hnm⟩) k4, ?_⟩
  have g4 : aget (aset l3 1 ⟨km, p3, c3, 0 + 1, failD ⟨km, p3, c3, 0, 10⟩ 10⟩) 1 = some ⟨km, p3, c3, 1, 15⟩ := by rw [aget_aset, if_pos rfl]; rfl
  have hQ4 : QR w4 b mb ⟨#[97]⟩ (0 + 1) (aset l3 1 ⟨km, p3, c3, 0 + 1, failD ⟨km, p3, c3, 0, 10⟩ 10⟩) := hQ4
  generalize aset l3 1 ⟨km, p3, c3, 0 + 1, failD ⟨km, p3, c3, 0, 10⟩ 10⟩ = l4 at hQ4 g4
  refine ⟨(qget_any b mb ⟨#[97]⟩ (0 + 1) l4 1 w4 hQ4 ⟨by decide, by decide⟩).mono fun e w5 ⟨⟨p5, c5, he, _, _⟩, k5⟩ => ?_⟩
  rw [g4] at he
  refine ⟨_, _, _, _, _, _, _, _, _, _, _, _, _, he, .of_k0 k5, fun n2 W6 hW6 => ?_⟩
  have k6 : K0 w5 W6 := hW6.kk rfl
  have k06 := (k04.trans k5).trans k6
  have hQ6 := (hQ4.k0 k5).k0 k6
  have hn2 : n2 ≠ b ∧ n2 ≠ mb := by have h1 : w5.heap.size ≤ n2 := hW6.fresh 0 rfl rfl; have := block_lt hQ4.blk; have := hQ4.map.lt; have := k5.size; omega
  refine ⟨(qfail_any b mb ⟨#[97]⟩ (0 + 1) l4 1 15 8 false W6 hQ6 ⟨by decide, by decide⟩ ⟨by decide, by decide⟩ ⟨by decide, by decide⟩ (hT.k0 k06)).mono fun e w7 hF => ?_⟩
  obtain ⟨he, hQ7, k7⟩ := hF.more g4 (by decide) (by show (1 : Int) + 1 < 8; decide)
  have k07 : K0 w w7 := k06.fresh k7 (fun j hj e => by omega)
  have hL2 : ∀ x ∈ [n2, n], x ≠ b ∧ x ≠ mb := fun x hx => by simp at hx; rcases hx with rfl | rfl; exact hn2; exact ⟨hnb, hnm⟩
  refine ⟨_, _, _, he, kept _ _ _ hL2 k7, ?_⟩
  have g7 : aget (aset l4 1 ⟨km, p3, c3, 1 + 1, failD ⟨km, p3, c3, 1, 15⟩ 15⟩) 1 = some ⟨km, p3, c3, 2, 25⟩ := by rw [aget_aset, if_pos rfl]; rfl
  have hQ7 : QR w7 b mb ⟨#[97]⟩ (0 + 1) (aset l4 1 ⟨km, p3, c3, 1 + 1, failD ⟨km, p3, c3, 1, 15⟩ 15⟩) := hQ7
  generalize aset l4 1 ⟨km, p3, c3, 1 + 1, failD ⟨km, p3, c3, 1, 15⟩ 15⟩ = l7 at hQ7 g7
  refine ⟨(qfail_any b mb ⟨#[97]⟩ (0 + 1) l7 1 25 8 false w7 hQ7 ⟨by decide, by decide⟩ ⟨by decide, by decide⟩ ⟨by decide, by decide⟩ (hT.k0 k07)).mono fun e w8 hF => ?_⟩
  obtain ⟨he, hQ8, k8⟩ := hF.more g7 (by decide) (by show (2 : Int) + 1 < 8; decide)
  have k08 : K0 w w8 := k07.fresh k8 (fun j hj e => by omega)
  refine ⟨_, _, _, he, kept _ _ _ hL2 k8, ?_⟩
  have g8 : aget (aset l7 1 ⟨km, p3, c3, 2 + 1, failD ⟨km, p3, c3, 2, 25⟩ 25⟩) 1 = some ⟨km, p3, c3, 3, 45⟩ := by rw [aget_aset, if_pos rfl]; rfl
  have hQ8 : QR w8 b mb ⟨#[97]⟩ (0 + 1) (aset l7 1 ⟨km, p3, c3, 2 + 1, failD ⟨km, p3, c3, 2, 25⟩ 25⟩) := hQ8
  generalize aset l7 1 ⟨km, p3, c3, 2 + 1, failD ⟨km, p3, c3, 2, 25⟩ 25⟩ = l8 at hQ8 g8
  refine ⟨(qget_any b mb ⟨#[97]⟩ (0 + 1) l8 1 w8 hQ8 ⟨by decide, by decide⟩).mono fun e w9 ⟨⟨p9, c9, he, _, _⟩, k9⟩ => ?_⟩
  rw [g8] at he
  refine ⟨_, _, _, _, _, _, _, _, _, _, _, _, _, he, .of_k0 k9, fun n4 Wa hWa => ?_⟩
  have ka : K0 w9 Wa := hWa.kk rfl
  have k0a := (k08.trans k9).trans ka
  have hQa := (hQ8.k0 k9).k0 ka
  have hn4 : n4 ≠ b ∧ n4 ≠ mb := by have h1 : w9.heap.size ≤ n4 := hWa.fresh 0 rfl rfl; have := block_lt hQ8.blk; have := hQ8.map.lt; have := k9.size; omega
  refine ⟨(qfail_any b mb ⟨#[97]⟩ (0 + 1) l8 1 50 8 true Wa hQa ⟨by decide, by decide⟩ ⟨by decide, by decide⟩ ⟨by decide, by decide⟩ (hT.k0 k0a)).mono fun e wb hF => ?_⟩
  obtain ⟨he, ⟨pb, cb, hQb⟩, kb⟩ := hF.last g8 (by decide) k_bnc
  have k0b : K0 w wb := k0a.fresh kb (fun j hj e => by omega)
  have hL4 : ∀ x ∈ [n4, n2, n], x ≠ b ∧ x ≠ mb := fun x hx => by simp at hx; rcases hx with rfl | rfl | rfl; exact hn4; exact hn2; exact ⟨hnb, hnm⟩
  refine ⟨_, _, _, he, kept _ _ _ hL4 kb, ?_⟩
  have gB : aget (aset (adel l8 1) (0 + 1 + 1) ⟨ky, pb, cb, 0, 50⟩) 2 = some ⟨ky, pb, cb, 0, 50⟩ := by rw [aget_aset, if_pos (by decide)]
  generalize aset (adel l8 1) (0 + 1 + 1) ⟨ky, pb, cb, 0, 50⟩ = lb at hQb gB
  refine ⟨(qget_any b mb ⟨#[97]⟩ (0 + 1 + 1) lb 2 wb hQb ⟨by decide, by decide⟩).mono fun e wc ⟨⟨pc, cc, he, _, _⟩, kc⟩ => ?_⟩
  rw [gB] at he
  refine ⟨_, _, _, _, _, _, _, _, _, _, _, _, _, he, .of_k0 kc, fun n6 => ?_⟩
  refine ⟨ky.bd, gimp_intro fun _ => fun Wd hWd => cell_at (hWd.cells 0 rfl) rfl, ky.fu, ky.fs, gimp_intro fun _ => fun Wd hWd => AtL_block (hWd.cells 0 rfl) rfl, fun Wd hWd => ?_⟩
  have kd : K0 wc Wd := hWd.kk rfl
  refine bsp_intro (fun _ => ?_) (fun h => ?_)
  · refine ⟨(mstr_any ky.fu ky.fs Wd (by decide +kernel) (by decide +kernel)).mono fun e we ⟨he, ke⟩ => ⟨_, he, .of_k0 ke, ?_⟩⟩
    refine ⟨ky.tu, ky.ts, gimp_intro fun _ => AtL_block (ke.blk (hWd.cells 0 rfl) (fun h => h)) rfl, km.fu, km.fs, gimp_intro fun _ => AtL_block (ke.blk (hWd.cells 3 rfl) (fun h => h)) rfl, _, gimp_intro fun _ => adEq _ _ _ _ (by decide +kernel) (by decide +kernel) (by decide +kernel) (by decide +kernel), ?_, ((k0b.trans kc).trans kd).trans ke⟩
    have : ∀ x : Bool, x = true → Ending.returned (.bool x) = .returned (.bool true) := fun x h => by rw [h]
    exact this _ (by kernel_rfl)
  · exfalso
    have h2 : true = false := Eq.trans (by kernel_rfl) h
    cases h2

end Go.Proofs.YtmlmdljnfokebaaGreatDoor

/- The formulas of functions by the symbolic evaluator, and that each gives the call's contract. Written by a program (gen.py). No condition. -/
namespace Go.Proofs.YtmlmdljnfokebaaGreatDoor
set_option maxRecDepth 100000
set_option linter.unusedVariables false

def VC_xuser (s : ByteArray) (w : World) (R : Ending → World → Prop) : Prop :=
 ∃ (I : List Value → World → Prop),
 ∃ (m : List Value → World → Nat),
 I [Value.int IntKind.i64 0] w ∧
 ∀ (x : Int) (w' : World),
 I [Value.int IntKind.i64 x] w' →
 bsp (decide (x < (↑s.size : Int)))
 ((0 ≤ x ∧ x < (↑s.size : Int)) ∧
 bsp
 (!lowerB (at8 s x.toNat) && !digitB (at8 s x.toNat) && at8 s x.toNat != 45 && at8 s x.toNat != 95 &&
 at8 s x.toNat != 46 &&
 at8 s x.toNat != 43)
 (R (Ending.returned (Value.bool false)) w')
 (I [Value.int IntKind.i64 (IntKind.i64.wrap (x + 1))] w' ∧
 m [Value.int IntKind.i64 (IntKind.i64.wrap (x + 1))] w' < m [Value.int IntKind.i64 x] w'))
 (R (Ending.returned (Value.bool (decide ((↑s.size : Int) ≤ 40)))) w')
theorem vc_xuser (s : ByteArray) (w : World) (R : Ending → World → Prop) (h : VC_xuser s w R) : Calls Tryz.prog 74 ([Value.string
    s] : List Value).toArray w R := by
  have e : execR2 { P := Tryz.prog, loops := [(2, [(3, Ck.int IntKind.i64)])], pur := purM, tails := [], joins := [], boxes := [] } Tryz.f74.results.toList R (Tryz.f74.body.getD .skip) (initF [Value.string
    s] (Tryz.f74.ntmps - ([Value.string s] : List Value).length)) w = VC_xuser s w R := by kernel_rfl
  have hb : Tryz.f74.body = some (Tryz.f74.body.getD .skip) := by kernel_rfl
  exact calls_of_exec2' (P := Tryz.prog) (fn := Tryz.f74) (c := Tryz.f74.body.getD .skip) (args := [Value.string
    s]) (w := w) (R := R) purM_ok Tryz.func74 hb e h

def VC_xsite (s : ByteArray) (w : World) (R : Ending → World → Prop) : Prop :=
 CallsS Tryz.prog 121 #[Value.string s] w fun (e : Ending) (w' : World) =>
 ∃ (x : Int),
 ∃ (x_1 : Int),
 e = Ending.returned (Value.tuple #[Value.int IntKind.i64 x, Value.int IntKind.i64 x_1]) ∧
 KeptL [] w w' ∧ R (Ending.returned (Value.int IntKind.i64 x_1)) w'
theorem vc_xsite (s : ByteArray) (w : World) (R : Ending → World → Prop) (h : VC_xsite s w R) : Calls Tryz.prog 75 ([Value.string
    s] : List Value).toArray w R := by
  have e : execR2 { P := Tryz.prog, loops := [], pur := purM, tails := [], joins := [], boxes := [] } Tryz.f75.results.toList R (Tryz.f75.body.getD .skip) (initF [Value.string
    s] (Tryz.f75.ntmps - ([Value.string s] : List Value).length)) w = VC_xsite s w R := by kernel_rfl
  have hb : Tryz.f75.body = some (Tryz.f75.body.getD .skip) := by kernel_rfl
  exact calls_of_exec2' (P := Tryz.prog) (fn := Tryz.f75) (c := Tryz.f75.body.getD .skip) (args := [Value.string
    s]) (w := w) (R := R) purM_ok Tryz.func75 hb e h

def VC_xtext (a : ByteArray) (b : ByteArray) (w : World) (R : Ending → World → Prop) : Prop :=
 ∀ (n : Nat),
 (9223372036854775807 - (↑(a.size + (ByteArray.mk #[64]).size) : Int)).NonNeg ∧
 (9223372036854775807 - (↑((a ++ ByteArray.mk #[64]).size + b.size) : Int)).NonNeg ∧
 ∀ (W : World),
 Loc w.heap.size [Blk.mk n 30 [Value.string a, Value.string b] 2] w W →
 R (Ending.returned (Value.string (a ++ ByteArray.mk #[64] ++ b))) W
theorem vc_xtext (a : ByteArray) (b : ByteArray) (w : World) (R : Ending → World → Prop) (h : VC_xtext a b w R) : Calls Tryz.prog 45 ([Value.agg
    #[Value.string a, Value.string b]] : List Value).toArray w R := by
  have e : execR2 { P := Tryz.prog, loops := [], pur := purM, tails := [], joins := [], boxes := [] } Tryz.f45.results.toList R (Tryz.f45.body.getD .skip) (initF [Value.agg
    #[Value.string a,
      Value.string
        b]] (Tryz.f45.ntmps - ([Value.agg
    #[Value.string a, Value.string b]] : List Value).length)) w = VC_xtext a b w R := by kernel_rfl
  have hb : Tryz.f45.body = some (Tryz.f45.body.getD .skip) := by kernel_rfl
  exact calls_of_exec2' (P := Tryz.prog) (fn := Tryz.f45) (c := Tryz.f45.body.getD .skip) (args := [Value.agg
    #[Value.string a, Value.string b]]) (w := w) (R := R) purM_ok Tryz.func45 hb e h

def VC_xaddr (s : ByteArray) (w : World) (R : Ending → World → Prop) : Prop :=
 ∀ (n : Nat) (W : World),
 Loc w.heap.size [Blk.mk n 30 [Value.string (ByteArray.mk #[]), Value.string (ByteArray.mk #[])] 2] w W →
 ∃ (I : List Value → World → Prop),
 ∃ (m : List Value → World → Nat),
 I [Value.int IntKind.i64 0, Value.int IntKind.i64 0, Value.int IntKind.i64 0] W ∧
 ∀ (x x_1 x_2 : Int) (w' : World),
 I [Value.int IntKind.i64 x, Value.int IntKind.i64 x_1, Value.int IntKind.i64 x_2] w' →
 Loc w.heap.size [Blk.mk n 30 [Value.string (ByteArray.mk #[]), Value.string (ByteArray.mk #[])] 0] w' w' →
 bsp (decide (x < (↑s.size : Int)))
 ((0 ≤ x ∧ x < (↑s.size : Int)) ∧
 bsp (at8 s x.toNat == 64)
 (I
 [Value.int IntKind.i64 (IntKind.i64.wrap (x + 1)), Value.int IntKind.i64 (IntKind.i64.wrap (x_1 + 1)),
 Value.int IntKind.i64 x]
 w' ∧
 m
 [Value.int IntKind.i64 (IntKind.i64.wrap (x + 1)), Value.int IntKind.i64 (IntKind.i64.wrap (x_1 + 1)),
 Value.int IntKind.i64 x]
 w' <
 m [Value.int IntKind.i64 x, Value.int IntKind.i64 x_1, Value.int IntKind.i64 x_2] w')
 (I [Value.int IntKind.i64 (IntKind.i64.wrap (x + 1)), Value.int IntKind.i64 x_1, Value.int IntKind.i64 x_2]
 w' ∧
 m [Value.int IntKind.i64 (IntKind.i64.wrap (x + 1)), Value.int IntKind.i64 x_1, Value.int IntKind.i64 x_2]
 w' <
 m [Value.int IntKind.i64 x, Value.int IntKind.i64 x_1, Value.int IntKind.i64 x_2] w'))
 (bsp (x_1 != 1)
 (∀ (W : World),
 Loc w.heap.size [Blk.mk n 30 [Value.string (ByteArray.mk #[]), Value.string (ByteArray.mk #[])] (wrM 0)] w'
 W →
 R
 (Ending.returned
 (Value.tuple
 #[Value.agg #[Value.string (ByteArray.mk #[]), Value.string (ByteArray.mk #[])],
 Value.int IntKind.i64 3]))
 W)
 ((0 ≤ x_2 ∧ x_2 ≤ (↑s.size : Int)) ∧
 CallsS Tryz.prog 74 #[Value.string (s.extract 0 x_2.toNat)] w' fun (e : Ending) (w'_1 : World) =>
 ∃ (x : Bool),
 e = Ending.returned (Value.bool x) ∧
 KeptL [n] w' w'_1 ∧
 bsp (!x)
 (∀ (W : World),
 Loc w.heap.size
 [Blk.mk n 30 [Value.string (ByteArray.mk #[]), Value.string (ByteArray.mk #[])] (wrM 0)] w'_1 W →
 R
 (Ending.returned
 (Value.tuple
 #[Value.agg #[Value.string (ByteArray.mk #[]), Value.string (ByteArray.mk #[])],
 Value.int IntKind.i64 12]))
 W)
 ((0 ≤ IntKind.i64.wrap (x_2 + 1) ∧ IntKind.i64.wrap (x_2 + 1) ≤ (↑s.size : Int)) ∧
 CallsS Tryz.prog 75 #[Value.string (s.extract (IntKind.i64.wrap (x_2 + 1)).toNat s.size)] w'_1
 fun (e : Ending) (w' : World) =>
 ∃ (x : Int),
 e = Ending.returned (Value.int IntKind.i64 x) ∧
 KeptL [n] w'_1 w' ∧
 bsp (x != 0)
 ((0 ≤ IntKind.i64.wrap (x_2 + 1) ∧ IntKind.i64.wrap (x_2 + 1) ≤ (↑s.size : Int)) ∧
 CallsS Tryz.prog 75 #[Value.string (s.extract (IntKind.i64.wrap (x_2 + 1)).toNat s.size)] w'
 fun (e : Ending) (w'_2 : World) =>
 ∃ (x : Int),
 e = Ending.returned (Value.int IntKind.i64 x) ∧
 KeptL [n] w' w'_2 ∧
 ∀ (W : World),
 Loc w.heap.size
 [Blk.mk n 30 [Value.string (ByteArray.mk #[]), Value.string (ByteArray.mk #[])] (wrM 0)]
 w'_2 W →
 R
 (Ending.returned
 (Value.tuple
 #[Value.agg #[Value.string (ByteArray.mk #[]), Value.string (ByteArray.mk #[])],
 Value.int IntKind.i64 x]))
 W)
 ((0 ≤ x_2 ∧ x_2 ≤ (↑s.size : Int)) ∧
 (0 ≤ IntKind.i64.wrap (x_2 + 1) ∧ IntKind.i64.wrap (x_2 + 1) ≤ (↑s.size : Int)) ∧
 ∀ (W : World),
 Loc w.heap.size
 [Blk.mk n 30
 [Value.string (s.extract 0 x_2.toNat),
 Value.string (s.extract (IntKind.i64.wrap (x_2 + 1)).toNat s.size)]
 (wrM 0)]
 w' W →
 R
 (Ending.returned
 (Value.tuple
 #[Value.agg
 #[Value.string (s.extract 0 x_2.toNat),
 Value.string (s.extract (IntKind.i64.wrap (x_2 + 1)).toNat s.size)],
 Value.int IntKind.i64 0]))
 W))))
theorem vc_xaddr (s : ByteArray) (w : World) (R : Ending → World → Prop) (h : VC_xaddr s w R) : Calls Tryz.prog 35 ([Value.string
    s] : List Value).toArray w R := by
  have e : execR2 { P := Tryz.prog, loops := [(3, [(6, Ck.int IntKind.i64), (5, Ck.int IntKind.i64), (4, Ck.int IntKind.i64)])], pur := purM, tails := [(14, 8)], joins := [], boxes := [] } Tryz.f35.results.toList R (Tryz.f35.body.getD .skip) (initF [Value.string
    s] (Tryz.f35.ntmps - ([Value.string s] : List Value).length)) w = VC_xaddr s w R := by kernel_rfl
  have hb : Tryz.f35.body = some (Tryz.f35.body.getD .skip) := by kernel_rfl
  exact calls_of_exec2' (P := Tryz.prog) (fn := Tryz.f35) (c := Tryz.f35.body.getD .skip) (args := [Value.string
    s]) (w := w) (R := R) purM_ok Tryz.func35 hb e h

def VC_xhas (p : Option Addr) (n : Nat) (c : Nat) (s : ByteArray) (w : World) (R : Ending → World → Prop) : Prop :=
 ∃ (I : List Value → World → Prop),
 ∃ (m : List Value → World → Nat),
 I [Value.int IntKind.i64 0] w ∧
 ∀ (x : Int) (w' : World),
 I [Value.int IntKind.i64 x] w' →
 bsp (decide (x < (↑n : Int)))
 (nn true p fun (b o : Nat) =>
 (0 ≤ x ∧ x < (↑n : Int)) ∧
 ∃ (x_1 : ByteArray),
 w'.cell? (Addr.mk b (o + x.toNat) none) = some (Value.string x_1) ∧
 bsp (x_1.toList == s.toList) (R (Ending.returned (Value.bool true)) w')
 (I [Value.int IntKind.i64 (IntKind.i64.wrap (x + 1))] w' ∧
 m [Value.int IntKind.i64 (IntKind.i64.wrap (x + 1))] w' < m [Value.int IntKind.i64 x] w'))
 (R (Ending.returned (Value.bool false)) w')
theorem vc_xhas (p : Option Addr) (n : Nat) (c : Nat) (s : ByteArray) (w : World) (R : Ending → World → Prop) (h : VC_xhas p n c s w R) : Calls Tryz.prog 89 ([Value.slice
    p n c,
  Value.string s] : List Value).toArray w R := by
  have e : execR2 { P := Tryz.prog, loops := [(2, [(5, Ck.int IntKind.i64)])], pur := purM, tails := [], joins := [], boxes := [] } Tryz.f89.results.toList R (Tryz.f89.body.getD .skip) (initF [Value.slice
    p n c,
  Value.string
    s] (Tryz.f89.ntmps - ([Value.slice p n c,
  Value.string s] : List Value).length)) w = VC_xhas p n c s w R := by kernel_rfl
  have hb : Tryz.f89.body = some (Tryz.f89.body.getD .skip) := by kernel_rfl
  exact calls_of_exec2' (P := Tryz.prog) (fn := Tryz.f89) (c := Tryz.f89.body.getD .skip) (args := [Value.slice p n c,
  Value.string s]) (w := w) (R := R) purM_ok Tryz.func89 hb e h

def VC_xsubj (s : ByteArray) (w : World) (R : Ending → World → Prop) : Prop :=
 bsp (decide ((↑s.size : Int) > 200)) (R (Ending.returned (Value.int IntKind.i64 5)) w)
 (CallsS Tryz.prog 127 #[Value.string s] w fun (e : Ending) (w' : World) =>
 ∃ (x : Int),
 e = Ending.returned (Value.int IntKind.i64 x) ∧
 KeptL [] w w' ∧
 bsp (decide (x ≥ 0)) (R (Ending.returned (Value.int IntKind.i64 6)) w')
 (CallsS Tryz.prog 128 #[Value.string s] w' fun (e : Ending) (w'_1 : World) =>
 ∃ (x : ByteArray),
 e = Ending.returned (Value.string x) ∧
 KeptL [] w' w'_1 ∧
 bsp (!x.toList == s.toList) (R (Ending.returned (Value.int IntKind.i64 3)) w'_1)
 (R (Ending.returned (Value.int IntKind.i64 0)) w'_1)))
theorem vc_xsubj (s : ByteArray) (w : World) (R : Ending → World → Prop) (h : VC_xsubj s w R) : Calls Tryz.prog 88 ([Value.string
    s] : List Value).toArray w R := by
  have e : execR2 { P := Tryz.prog, loops := [], pur := purM, tails := [], joins := [], boxes := [] } Tryz.f88.results.toList R (Tryz.f88.body.getD .skip) (initF [Value.string
    s] (Tryz.f88.ntmps - ([Value.string s] : List Value).length)) w = VC_xsubj s w R := by kernel_rfl
  have hb : Tryz.f88.body = some (Tryz.f88.body.getD .skip) := by kernel_rfl
  exact calls_of_exec2' (P := Tryz.prog) (fn := Tryz.f88) (c := Tryz.f88.body.getD .skip) (args := [Value.string
    s]) (w := w) (R := R) purM_ok Tryz.func88 hb e h

def VC_xcheck (fu : ByteArray) (fs : ByteArray) (tu : ByteArray) (ts : ByteArray) (n : Int) (d : Int) (sj : ByteArray) (hp : Option Addr) (hn : Nat) (hc : Nat) (bd : ByteArray) (w : World) (R : Ending → World → Prop) : Prop :=
 ∀ (n_1 : Nat) (W : World),
 Loc w.heap.size
 [Blk.mk n_1 32
 [Value.string fu, Value.string fs, Value.string tu, Value.string ts, Value.int IntKind.i64 n,
 Value.int IntKind.i64 d, Value.string sj, Value.slice hp hn hc, Value.string bd]
 2]
 w W →
 CallsS Tryz.prog 74 #[Value.string fu] W fun (e : Ending) (w' : World) =>
 ∃ (x : Bool),
 e = Ending.returned (Value.bool x) ∧
 KeptL [n_1] W w' ∧
 bsp (!x) (R (Ending.returned (Value.int IntKind.i64 12)) w')
 (CallsS Tryz.prog 75 #[Value.string fs] w' fun (e : Ending) (w'_1 : World) =>
 ∃ (x : Int),
 e = Ending.returned (Value.int IntKind.i64 x) ∧
 KeptL [n_1] w' w'_1 ∧
 bsp (x != 0)
 (CallsS Tryz.prog 75 #[Value.string fs] w'_1 fun (e : Ending) (w' : World) =>
 ∃ (x : Int),
 e = Ending.returned (Value.int IntKind.i64 x) ∧
 KeptL [n_1] w'_1 w' ∧ R (Ending.returned (Value.int IntKind.i64 x)) w')
 (CallsS Tryz.prog 74 #[Value.string tu] w'_1 fun (e : Ending) (w' : World) =>
 ∃ (x : Bool),
 e = Ending.returned (Value.bool x) ∧
 KeptL [n_1] w'_1 w' ∧
 ∃ (x_1 : ByteArray),
 gimp (!!x) (w'.cell? (Addr.mk n_1 (0 + 2) none) = some (Value.string x_1)) ∧
 bsp (!x || x_1.toList == []) (R (Ending.returned (Value.int IntKind.i64 12)) w')
 (CallsS Tryz.prog 75 #[Value.string ts] w' fun (e : Ending) (w'_2 : World) =>
 ∃ (x : Int),
 e = Ending.returned (Value.int IntKind.i64 x) ∧
 KeptL [n_1] w' w'_2 ∧
 bsp (x != 0)
 (CallsS Tryz.prog 75 #[Value.string ts] w'_2 fun (e : Ending) (w' : World) =>
 ∃ (x : Int),
 e = Ending.returned (Value.int IntKind.i64 x) ∧
 KeptL [n_1] w'_2 w' ∧ R (Ending.returned (Value.int IntKind.i64 x)) w')
 (∃ (x : Int),
 gimp (!decide (n < 0))
 (w'_2.cell? (Addr.mk n_1 (0 + 4) none) = some (Value.int IntKind.i64 x)) ∧
 bsp (decide (n < 0) || decide (x > 2147483647))
 (R (Ending.returned (Value.int IntKind.i64 2)) w'_2)
 (bsp (!minB d) (R (Ending.returned (Value.int IntKind.i64 13)) w'_2)
 (CallsS Tryz.prog 88 #[Value.string sj] w'_2 fun (e : Ending) (w' : World) =>
 ∃ (x : Int),
 e = Ending.returned (Value.int IntKind.i64 x) ∧
 KeptL [n_1] w'_2 w' ∧
 bsp (x != 0)
 (CallsS Tryz.prog 88 #[Value.string sj] w' fun (e : Ending) (w'_3 : World) =>
 ∃ (x : Int),
 e = Ending.returned (Value.int IntKind.i64 x) ∧
 KeptL [n_1] w' w'_3 ∧ R (Ending.returned (Value.int IntKind.i64 x)) w'_3)
 (bsp (decide ((↑hn : Int) > 16)) (R (Ending.returned (Value.int IntKind.i64 9)) w')
 (∃ (I : List Value → World → Prop),
 ∃ (m : List Value → World → Nat),
 I [Value.int IntKind.i64 0] w' ∧
 ∀ (x : Int) (w' : World),
 I [Value.int IntKind.i64 x] w' →
 Loc w.heap.size
 [Blk.mk n_1 32
 [Value.string fu, Value.string fs, Value.string tu, Value.string ts,
 Value.int IntKind.i64 n, Value.int IntKind.i64 d, Value.string sj,
 Value.slice hp hn hc, Value.string bd]
 0]
 w' w' →
 bsp (decide (x < (↑hn : Int)))
 (nn true hp fun (b o : Nat) =>
 (0 ≤ x ∧ x < (↑hn : Int)) ∧
 ∃ (x_2 : ByteArray),
 w'.cell? (Addr.mk b (o + x.toNat) none) = some (Value.string x_2) ∧
 CallsS Tryz.prog 75 #[Value.string x_2] w'
 fun (e : Ending) (w'_3 : World) =>
 ∃ (x_3 : Int),
 e = Ending.returned (Value.int IntKind.i64 x_3) ∧
 KeptL [n_1] w' w'_3 ∧
 bsp (x_3 != 0) (R (Ending.returned (Value.int IntKind.i64 x_3)) w'_3)
 ((0 ≤ x ∧ x ≤ (↑hc : Int)) ∧
 nn true hp fun (b o : Nat) =>
 (0 ≤ x ∧ x < (↑hn : Int)) ∧
 ∃ (x_4 : ByteArray),
 (∀ (W : World),
 Loc w.heap.size
 [Blk.mk n_1 32
 [Value.string fu, Value.string fs, Value.string tu,
 Value.string ts, Value.int IntKind.i64 n,
 Value.int IntKind.i64 d, Value.string sj,
 Value.slice hp hn hc, Value.string bd]
 0]
 w'_3 W →
 W.cell? (Addr.mk b (o + x.toNat) none) =
 some (Value.string x_4)) ∧
 ∀ (W : World),
 Loc w.heap.size
 [Blk.mk n_1 32
 [Value.string fu, Value.string fs, Value.string tu,
 Value.string ts, Value.int IntKind.i64 n,
 Value.int IntKind.i64 d, Value.string sj,
 Value.slice hp hn hc, Value.string bd]
 0]
 w'_3 W →
 CallsS Tryz.prog 89
 #[Value.slice hp x.toNat hc, Value.string x_4] W
 fun (e : Ending) (w'_4 : World) =>
 ∃ (x_5 : Bool),
 e = Ending.returned (Value.bool x_5) ∧
 KeptL [n_1] W w'_4 ∧
 bsp x_5
 (R (Ending.returned (Value.int IntKind.i64 24)) w'_4)
 (I [Value.int IntKind.i64 (IntKind.i64.wrap (x + 1))]
 w'_4 ∧
 m [Value.int IntKind.i64 (IntKind.i64.wrap (x + 1))]
 w'_4 <
 m [Value.int IntKind.i64 x] w')))
 (bsp (decide ((↑bd.size : Int) > 32768))
 (R (Ending.returned (Value.int IntKind.i64 5)) w')
 (R (Ending.returned (Value.int IntKind.i64 0)) w'))))))))))
theorem vc_xcheck (fu : ByteArray) (fs : ByteArray) (tu : ByteArray) (ts : ByteArray) (n : Int) (d : Int) (sj : ByteArray) (hp : Option Addr) (hn : Nat) (hc : Nat) (bd : ByteArray) (w : World) (R : Ending → World → Prop) (h : VC_xcheck fu fs tu ts n d sj hp hn hc bd w R) : Calls Tryz.prog 43 ([Value.agg
    #[Value.string fu, Value.string fs, Value.string tu, Value.string ts, Value.int IntKind.i64 n,
      Value.int IntKind.i64 d, Value.string sj, Value.slice hp hn hc, Value.string bd]] : List Value).toArray w R := by
  have e : execR2 { P := Tryz.prog, loops := [(18, [(3, Ck.int IntKind.i64)])], pur := purM, tails := [(23, 9)], joins := [], boxes := [] } Tryz.f43.results.toList R (Tryz.f43.body.getD .skip) (initF [Value.agg
    #[Value.string fu, Value.string fs, Value.string tu, Value.string ts, Value.int IntKind.i64 n,
      Value.int IntKind.i64 d, Value.string sj, Value.slice hp hn hc,
      Value.string
        bd]] (Tryz.f43.ntmps - ([Value.agg
    #[Value.string fu, Value.string fs, Value.string tu, Value.string ts, Value.int IntKind.i64 n,
      Value.int IntKind.i64 d, Value.string sj, Value.slice hp hn hc,
      Value.string bd]] : List Value).length)) w = VC_xcheck fu fs tu ts n d sj hp hn hc bd w R := by kernel_rfl
  have hb : Tryz.f43.body = some (Tryz.f43.body.getD .skip) := by kernel_rfl
  exact calls_of_exec2' (P := Tryz.prog) (fn := Tryz.f43) (c := Tryz.f43.body.getD .skip) (args := [Value.agg
    #[Value.string fu, Value.string fs, Value.string tu, Value.string ts, Value.int IntKind.i64 n,
      Value.int IntKind.i64 d, Value.string sj, Value.slice hp hn hc,
      Value.string bd]]) (w := w) (R := R) purM_ok Tryz.func43 hb e h

def VC_xsame (fu : ByteArray) (fs : ByteArray) (tu : ByteArray) (ts : ByteArray) (n : Int) (d : Int) (sj : ByteArray) (hp : Option Addr) (hn : Nat) (hc : Nat) (bd : ByteArray) (fuy : ByteArray) (fsy : ByteArray) (tuy : ByteArray) (tsy : ByteArray) (ny : Int) (dy : Int) (sjy : ByteArray) (hpy : Option Addr) (hny : Nat) (hcy : Nat) (bdy : ByteArray) (w : World) (R : Ending → World → Prop) : Prop :=
 ∀ (n_1 n_2 : Nat),
 ∃ (r : Bool),
 EqP Tryz.prog 30 (Value.agg #[Value.string fu, Value.string fs]) (Value.agg #[Value.string fuy, Value.string fsy]) r ∧
 ∃ (x : ByteArray),
 ∃ (x_1 : ByteArray),
 gimp r
 (∀ (W : World),
 Loc w.heap.size
 [Blk.mk n_2 32
 [Value.string fuy, Value.string fsy, Value.string tuy, Value.string tsy, Value.int IntKind.i64 ny,
 Value.int IntKind.i64 dy, Value.string sjy, Value.slice hpy hny hcy, Value.string bdy]
 2,
 Blk.mk n_1 32
 [Value.string fu, Value.string fs, Value.string tu, Value.string ts, Value.int IntKind.i64 n,
 Value.int IntKind.i64 d, Value.string sj, Value.slice hp hn hc, Value.string bd]
 2]
 w W →
 AtL W n_1 (0 + 2) [Value.string x, Value.string x_1]) ∧
 ∃ (x_2 : ByteArray),
 ∃ (x_3 : ByteArray),
 gimp r
 (∀ (W : World),
 Loc w.heap.size
 [Blk.mk n_2 32
 [Value.string fuy, Value.string fsy, Value.string tuy, Value.string tsy, Value.int IntKind.i64 ny,
 Value.int IntKind.i64 dy, Value.string sjy, Value.slice hpy hny hcy, Value.string bdy]
 2,
 Blk.mk n_1 32
 [Value.string fu, Value.string fs, Value.string tu, Value.string ts, Value.int IntKind.i64 n,
 Value.int IntKind.i64 d, Value.string sj, Value.slice hp hn hc, Value.string bd]
 2]
 w W →
 AtL W n_2 (0 + 2) [Value.string x_2, Value.string x_3]) ∧
 ∃ (r_1 : Bool),
 gimp r
 (EqP Tryz.prog 30 (Value.agg #[Value.string x, Value.string x_1])
 (Value.agg #[Value.string x_2, Value.string x_3]) r_1) ∧
 ∃ (x : Int),
 gimp (r && r_1)
 (∀ (W : World),
 Loc w.heap.size
 [Blk.mk n_2 32
 [Value.string fuy, Value.string fsy, Value.string tuy, Value.string tsy, Value.int IntKind.i64 ny,
 Value.int IntKind.i64 dy, Value.string sjy, Value.slice hpy hny hcy, Value.string bdy]
 2,
 Blk.mk n_1 32
 [Value.string fu, Value.string fs, Value.string tu, Value.string ts, Value.int IntKind.i64 n,
 Value.int IntKind.i64 d, Value.string sj, Value.slice hp hn hc, Value.string bd]
 2]
 w W →
 W.cell? (Addr.mk n_1 (0 + 4) none) = some (Value.int IntKind.i64 x)) ∧
 ∃ (x_4 : Int),
 gimp (r && r_1)
 (∀ (W : World),
 Loc w.heap.size
 [Blk.mk n_2 32
 [Value.string fuy, Value.string fsy, Value.string tuy, Value.string tsy, Value.int IntKind.i64 ny,
 Value.int IntKind.i64 dy, Value.string sjy, Value.slice hpy hny hcy, Value.string bdy]
 2,
 Blk.mk n_1 32
 [Value.string fu, Value.string fs, Value.string tu, Value.string ts, Value.int IntKind.i64 n,
 Value.int IntKind.i64 d, Value.string sj, Value.slice hp hn hc, Value.string bd]
 2]
 w W →
 W.cell? (Addr.mk n_2 (0 + 4) none) = some (Value.int IntKind.i64 x_4)) ∧
 ∃ (x_5 : Int),
 gimp (r && r_1 && x == x_4)
 (∀ (W : World),
 Loc w.heap.size
 [Blk.mk n_2 32
 [Value.string fuy, Value.string fsy, Value.string tuy, Value.string tsy,
 Value.int IntKind.i64 ny, Value.int IntKind.i64 dy, Value.string sjy, Value.slice hpy hny hcy,
 Value.string bdy]
 2,
 Blk.mk n_1 32
 [Value.string fu, Value.string fs, Value.string tu, Value.string ts, Value.int IntKind.i64 n,
 Value.int IntKind.i64 d, Value.string sj, Value.slice hp hn hc, Value.string bd]
 2]
 w W →
 W.cell? (Addr.mk n_1 (0 + 5) none) = some (Value.int IntKind.i64 x_5)) ∧
 ∃ (x_6 : Int),
 gimp (r && r_1 && x == x_4)
 (∀ (W : World),
 Loc w.heap.size
 [Blk.mk n_2 32
 [Value.string fuy, Value.string fsy, Value.string tuy, Value.string tsy,
 Value.int IntKind.i64 ny, Value.int IntKind.i64 dy, Value.string sjy, Value.slice hpy hny hcy,
 Value.string bdy]
 2,
 Blk.mk n_1 32
 [Value.string fu, Value.string fs, Value.string tu, Value.string ts, Value.int IntKind.i64 n,
 Value.int IntKind.i64 d, Value.string sj, Value.slice hp hn hc, Value.string bd]
 2]
 w W →
 W.cell? (Addr.mk n_2 (0 + 5) none) = some (Value.int IntKind.i64 x_6)) ∧
 ∃ (x_7 : ByteArray),
 gimp (r && r_1 && x == x_4 && x_5 == x_6)
 (∀ (W : World),
 Loc w.heap.size
 [Blk.mk n_2 32
 [Value.string fuy, Value.string fsy, Value.string tuy, Value.string tsy,
 Value.int IntKind.i64 ny, Value.int IntKind.i64 dy, Value.string sjy,
 Value.slice hpy hny hcy, Value.string bdy]
 2,
 Blk.mk n_1 32
 [Value.string fu, Value.string fs, Value.string tu, Value.string ts, Value.int IntKind.i64 n,
 Value.int IntKind.i64 d, Value.string sj, Value.slice hp hn hc, Value.string bd]
 2]
 w W →
 W.cell? (Addr.mk n_1 (0 + 6) none) = some (Value.string x_7)) ∧
 ∃ (x_8 : ByteArray),
 gimp (r && r_1 && x == x_4 && x_5 == x_6)
 (∀ (W : World),
 Loc w.heap.size
 [Blk.mk n_2 32
 [Value.string fuy, Value.string fsy, Value.string tuy, Value.string tsy,
 Value.int IntKind.i64 ny, Value.int IntKind.i64 dy, Value.string sjy,
 Value.slice hpy hny hcy, Value.string bdy]
 2,
 Blk.mk n_1 32
 [Value.string fu, Value.string fs, Value.string tu, Value.string ts,
 Value.int IntKind.i64 n, Value.int IntKind.i64 d, Value.string sj, Value.slice hp hn hc,
 Value.string bd]
 2]
 w W →
 W.cell? (Addr.mk n_2 (0 + 6) none) = some (Value.string x_8)) ∧
 ∃ (x_9 : ByteArray),
 gimp (r && r_1 && x == x_4 && x_5 == x_6 && x_7.toList == x_8.toList)
 (∀ (W : World),
 Loc w.heap.size
 [Blk.mk n_2 32
 [Value.string fuy, Value.string fsy, Value.string tuy, Value.string tsy,
 Value.int IntKind.i64 ny, Value.int IntKind.i64 dy, Value.string sjy,
 Value.slice hpy hny hcy, Value.string bdy]
 2,
 Blk.mk n_1 32
 [Value.string fu, Value.string fs, Value.string tu, Value.string ts,
 Value.int IntKind.i64 n, Value.int IntKind.i64 d, Value.string sj, Value.slice hp hn hc,
 Value.string bd]
 2]
 w W →
 W.cell? (Addr.mk n_1 (0 + 8) none) = some (Value.string x_9)) ∧
 ∃ (x_10 : ByteArray),
 gimp (r && r_1 && x == x_4 && x_5 == x_6 && x_7.toList == x_8.toList)
 (∀ (W : World),
 Loc w.heap.size
 [Blk.mk n_2 32
 [Value.string fuy, Value.string fsy, Value.string tuy, Value.string tsy,
 Value.int IntKind.i64 ny, Value.int IntKind.i64 dy, Value.string sjy,
 Value.slice hpy hny hcy, Value.string bdy]
 2,
 Blk.mk n_1 32
 [Value.string fu, Value.string fs, Value.string tu, Value.string ts,
 Value.int IntKind.i64 n, Value.int IntKind.i64 d, Value.string sj,
 Value.slice hp hn hc, Value.string bd]
 2]
 w W →
 W.cell? (Addr.mk n_2 (0 + 8) none) = some (Value.string x_10)) ∧
 ∃ (p : Option Addr),
 ∃ (n_3 : Nat),
 ∃ (c : Nat),
 gimp
 (r && r_1 && x == x_4 && x_5 == x_6 && x_7.toList == x_8.toList &&
 x_9.toList == x_10.toList)
 (∀ (W : World),
 Loc w.heap.size
 [Blk.mk n_2 32
 [Value.string fuy, Value.string fsy, Value.string tuy, Value.string tsy,
 Value.int IntKind.i64 ny, Value.int IntKind.i64 dy, Value.string sjy,
 Value.slice hpy hny hcy, Value.string bdy]
 2,
 Blk.mk n_1 32
 [Value.string fu, Value.string fs, Value.string tu, Value.string ts,
 Value.int IntKind.i64 n, Value.int IntKind.i64 d, Value.string sj,
 Value.slice hp hn hc, Value.string bd]
 2]
 w W →
 W.cell? (Addr.mk n_1 (0 + 7) none) = some (Value.slice p n_3 c)) ∧
 ∃ (p_1 : Option Addr),
 ∃ (n_4 : Nat),
 ∃ (c_1 : Nat),
 gimp
 (r && r_1 && x == x_4 && x_5 == x_6 && x_7.toList == x_8.toList &&
 x_9.toList == x_10.toList)
 (∀ (W : World),
 Loc w.heap.size
 [Blk.mk n_2 32
 [Value.string fuy, Value.string fsy, Value.string tuy, Value.string tsy,
 Value.int IntKind.i64 ny, Value.int IntKind.i64 dy, Value.string sjy,
 Value.slice hpy hny hcy, Value.string bdy]
 2,
 Blk.mk n_1 32
 [Value.string fu, Value.string fs, Value.string tu, Value.string ts,
 Value.int IntKind.i64 n, Value.int IntKind.i64 d, Value.string sj,
 Value.slice hp hn hc, Value.string bd]
 2]
 w W →
 W.cell? (Addr.mk n_2 (0 + 7) none) = some (Value.slice p_1 n_4 c_1)) ∧
 ∀ (W : World),
 Loc w.heap.size
 [Blk.mk n_2 32
 [Value.string fuy, Value.string fsy, Value.string tuy, Value.string tsy,
 Value.int IntKind.i64 ny, Value.int IntKind.i64 dy, Value.string sjy,
 Value.slice hpy hny hcy, Value.string bdy]
 2,
 Blk.mk n_1 32
 [Value.string fu, Value.string fs, Value.string tu, Value.string ts,
 Value.int IntKind.i64 n, Value.int IntKind.i64 d, Value.string sj,
 Value.slice hp hn hc, Value.string bd]
 2]
 w W →
 bsp
 (r && r_1 && x == x_4 && x_5 == x_6 && x_7.toList == x_8.toList &&
 x_9.toList == x_10.toList)
 (CallsS Tryz.prog 29 #[Value.slice p n_3 c, Value.slice p_1 n_4 c_1] W
 fun (e : Ending) (w' : World) =>
 ∃ (x : Bool),
 e = Ending.returned (Value.bool x) ∧
 KeptL [n_2, n_1] W w' ∧ R (Ending.returned (Value.bool (true && x))) w')
 (KeptL [n_2, n_1] W W ∧ R (Ending.returned (Value.bool false)) W)
theorem vc_xsame (fu : ByteArray) (fs : ByteArray) (tu : ByteArray) (ts : ByteArray) (n : Int) (d : Int) (sj : ByteArray) (hp : Option Addr) (hn : Nat) (hc : Nat) (bd : ByteArray) (fuy : ByteArray) (fsy : ByteArray) (tuy : ByteArray) (tsy : ByteArray) (ny : Int) (dy : Int) (sjy : ByteArray) (hpy : Option Addr) (hny : Nat) (hcy : Nat) (bdy : ByteArray) (w : World) (R : Ending → World → Prop) (h : VC_xsame fu fs tu ts n d sj hp hn hc bd fuy fsy tuy tsy ny dy sjy hpy hny hcy bdy w R) : Calls Tryz.prog 10 ([Value.agg
    #[Value.string fu, Value.string fs, Value.string tu, Value.string ts, Value.int IntKind.i64 n,
      Value.int IntKind.i64 d, Value.string sj, Value.slice hp hn hc, Value.string bd],
  Value.agg
    #[Value.string fuy, Value.string fsy, Value.string tuy, Value.string tsy, Value.int IntKind.i64 ny,
      Value.int IntKind.i64 dy, Value.string sjy, Value.slice hpy hny hcy,
      Value.string bdy]] : List Value).toArray w R := by
  have e : execR2 { P := Tryz.prog, loops := [], pur := purM, tails := [], joins := [], boxes := [] } Tryz.f10.results.toList R (Tryz.f10.body.getD .skip) (initF [Value.agg
    #[Value.string fu, Value.string fs, Value.string tu, Value.string ts, Value.int IntKind.i64 n,
      Value.int IntKind.i64 d, Value.string sj, Value.slice hp hn hc, Value.string bd],
  Value.agg
    #[Value.string fuy, Value.string fsy, Value.string tuy, Value.string tsy, Value.int IntKind.i64 ny,
      Value.int IntKind.i64 dy, Value.string sjy, Value.slice hpy hny hcy,
      Value.string
        bdy]] (Tryz.f10.ntmps - ([Value.agg
    #[Value.string fu, Value.string fs, Value.string tu, Value.string ts, Value.int IntKind.i64 n,
      Value.int IntKind.i64 d, Value.string sj, Value.slice hp hn hc, Value.string bd],
  Value.agg
    #[Value.string fuy, Value.string fsy, Value.string tuy, Value.string tsy, Value.int IntKind.i64 ny,
      Value.int IntKind.i64 dy, Value.string sjy, Value.slice hpy hny hcy,
      Value.string
        bdy]] : List Value).length)) w = VC_xsame fu fs tu ts n d sj hp hn hc bd fuy fsy tuy tsy ny dy sjy hpy hny hcy bdy w R := by kernel_rfl
  have hb : Tryz.f10.body = some (Tryz.f10.body.getD .skip) := by kernel_rfl
  exact calls_of_exec2' (P := Tryz.prog) (fn := Tryz.f10) (c := Tryz.f10.body.getD .skip) (args := [Value.agg
    #[Value.string fu, Value.string fs, Value.string tu, Value.string ts, Value.int IntKind.i64 n,
      Value.int IntKind.i64 d, Value.string sj, Value.slice hp hn hc, Value.string bd],
  Value.agg
    #[Value.string fuy, Value.string fsy, Value.string tuy, Value.string tsy, Value.int IntKind.i64 ny,
      Value.int IntKind.i64 dy, Value.string sjy, Value.slice hpy hny hcy,
      Value.string bdy]]) (w := w) (R := R) purM_ok Tryz.func10 hb e h

def VC_xbounce (fu : ByteArray) (fs : ByteArray) (tu : ByteArray) (ts : ByteArray) (n : Int) (d : Int) (sj : ByteArray) (hp : Option Addr) (hn : Nat) (hc : Nat) (bd : ByteArray) (s : ByteArray) (x : Int) (now : Int) (w : World) (R : Ending → World → Prop) : Prop :=
 ∀ (n_1 n_2 : Nat) (W : World),
 Loc w.heap.size
 [Blk.mk n_2 32
 [Value.string (ByteArray.mk #[]), Value.string (ByteArray.mk #[]), Value.string (ByteArray.mk #[]),
 Value.string (ByteArray.mk #[]), Value.int IntKind.i64 0, Value.int IntKind.i64 0,
 Value.string (ByteArray.mk #[]), Value.slice none 0 0, Value.string (ByteArray.mk #[])]
 2,
 Blk.mk n_1 32
 [Value.string fu, Value.string fs, Value.string tu, Value.string ts, Value.int IntKind.i64 n,
 Value.int IntKind.i64 d, Value.string sj, Value.slice hp hn hc, Value.string bd]
 2]
 w W →
 bsp (!fu.toList == [])
 (CallsS Tryz.prog 43
 #[Value.agg
 #[Value.string fu, Value.string fs, Value.string tu, Value.string ts, Value.int IntKind.i64 n,
 Value.int IntKind.i64 d, Value.string sj, Value.slice hp hn hc, Value.string bd]]
 W fun (e : Ending) (w' : World) =>
 ∃ (x_1 : Int),
 e = Ending.returned (Value.int IntKind.i64 x_1) ∧
 KeptL [n_2, n_1] W w' ∧
 bsp (!(false || x_1 != 0))
 (CallsS Tryz.prog 75 #[Value.string s] w' fun (e : Ending) (w'_1 : World) =>
 ∃ (x_2 : Int),
 e = Ending.returned (Value.int IntKind.i64 x_2) ∧
 KeptL [n_2, n_1] w' w'_1 ∧
 bsp (false || x_2 != 0 || !minB now)
 (∀ (W : World),
 Loc w.heap.size
 [Blk.mk n_2 32
 [Value.string (ByteArray.mk #[]), Value.string (ByteArray.mk #[]), Value.string (ByteArray.mk #[]),
 Value.string (ByteArray.mk #[]), Value.int IntKind.i64 0, Value.int IntKind.i64 0,
 Value.string (ByteArray.mk #[]), Value.slice none 0 0, Value.string (ByteArray.mk #[])]
 (wrM 0),
 Blk.mk n_1 32
 [Value.string fu, Value.string fs, Value.string tu, Value.string ts, Value.int IntKind.i64 n,
 Value.int IntKind.i64 d, Value.string sj, Value.slice hp hn hc, Value.string bd]
 0]
 w'_1 W →
 R
 (Ending.returned
 (Value.tuple
 #[Value.agg
 #[Value.string (ByteArray.mk #[]), Value.string (ByteArray.mk #[]), Value.string (ByteArray.mk #[]),
 Value.string (ByteArray.mk #[]), Value.int IntKind.i64 0, Value.int IntKind.i64 0,
 Value.string (ByteArray.mk #[]), Value.slice none 0 0, Value.string (ByteArray.mk #[])],
 Value.bool false]))
 W)
 (∀ (W : World),
 Loc w.heap.size
 [Blk.mk n_2 32
 [Value.string (ByteArray.mk #[]), Value.string (ByteArray.mk #[]), Value.string (ByteArray.mk #[]),
 Value.string (ByteArray.mk #[]), Value.int IntKind.i64 0, Value.int IntKind.i64 0,
 Value.string (ByteArray.mk #[]), Value.slice none 0 0, Value.string (ByteArray.mk #[])]
 0,
 Blk.mk n_1 32
 [Value.string fu, Value.string fs, Value.string tu, Value.string ts, Value.int IntKind.i64 n,
 Value.int IntKind.i64 d, Value.string sj, Value.slice hp hn hc, Value.string bd]
 0]
 w'_1 W →
 ∃ (S : World → Prop),
 S W ∧
 ∃ (x_3 : ByteArray),
 ∃ (x_4 : ByteArray),
 (∀ (w' : World), S w' → AtL w' n_1 0 [Value.string x_3, Value.string x_4]) ∧
 ∃ (x_5 : Int),
 (∀ (w' : World), S w' → w'.cell? (Addr.mk n_1 (0 + 4) none) = some (Value.int IntKind.i64 x_5)) ∧
 ∃ (x_6 : ByteArray),
 ∃ (x_7 : ByteArray),
 (∀ (w' : World), S w' → AtL w' n_1 (0 + 2) [Value.string x_6, Value.string x_7]) ∧
 ∃ (x_8 : ByteArray),
 (∀ (w' : World), S w' → w'.cell? (Addr.mk n_1 (0 + 6) none) = some (Value.string x_8)) ∧
 CallsS Tryz.prog 45 #[Value.agg #[Value.string x_6, Value.string x_7]] W
 fun (e : Ending) (w' : World) =>
 ∃ (x_9 : ByteArray),
 e = Ending.returned (Value.string x_9) ∧
 S w' ∧
 (9223372036854775807 - (↑(x_9.size + (ByteArray.mk #[32]).size) : Int)).NonNeg ∧
 CallsS Tryz.prog 46 #[Value.int IntKind.i64 x] w' fun (e : Ending) (w' : World) =>
 ∃ (x : ByteArray),
 e = Ending.returned (Value.string x) ∧
 S w' ∧
 (9223372036854775807 -
 (↑((x_9 ++ ByteArray.mk #[32]).size + x.size) : Int)).NonNeg ∧
 (9223372036854775807 -
 (↑((x_9 ++ ByteArray.mk #[32] ++ x).size + (ByteArray.mk #[10]).size) :
 Int)).NonNeg ∧
 (9223372036854775807 -
 (↑((x_9 ++ ByteArray.mk #[32] ++ x ++ ByteArray.mk #[10]).size + x_8.size) :
 Int)).NonNeg ∧
 (9223372036854775807 -
 (↑((x_9 ++ ByteArray.mk #[32] ++ x ++ ByteArray.mk #[10] ++ x_8).size +
 (ByteArray.mk #[10]).size) :
 Int)).NonNeg ∧
 WrL w' n_2 0 9 ∧
 ∀ (w1 : World),
 PutB w' n_2 0
 [Value.string (ByteArray.mk #[]), Value.string s, Value.string x_3,
 Value.string x_4, Value.int IntKind.i64 x_5, Value.int IntKind.i64 now,
 Value.string
 (ByteArray.mk
 #[78, 111, 116, 32, 100, 101, 108, 105, 118, 101, 114, 101, 100]),
 Value.slice none 0 0,
 Value.string
 (x_9 ++ ByteArray.mk #[32] ++ x ++ ByteArray.mk #[10] ++ x_8 ++
 ByteArray.mk #[10])]
 w1 →
 KeptL [n_1] W w1 ∧
 ∃ (x : ByteArray),
 ∃ (x_10 : ByteArray),
 ∃ (x_11 : ByteArray),
 ∃ (x_12 : ByteArray),
 ∃ (x_13 : Int),
 ∃ (x_14 : Int),
 ∃ (x_15 : ByteArray),
 ∃ (p : Option Addr),
 ∃ (n : Nat),
 ∃ (c : Nat),
 ∃ (x_16 : ByteArray),
 AtL w1 n_2 0
 [Value.string x, Value.string x_10, Value.string x_11,
 Value.string x_12, Value.int IntKind.i64 x_13,
 Value.int IntKind.i64 x_14, Value.string x_15,
 Value.slice p n c, Value.string x_16] ∧
 R
 (Ending.returned
 (Value.tuple
 #[Value.agg
 #[Value.string x, Value.string x_10, Value.string x_11,
 Value.string x_12, Value.int IntKind.i64 x_13,
 Value.int IntKind.i64 x_14, Value.string x_15,
 Value.slice p n c, Value.string x_16],
 Value.bool true]))
 w1))
 (KeptL [n_2, n_1] w' w' ∧
 ∀ (W : World),
 Loc w.heap.size
 [Blk.mk n_2 32
 [Value.string (ByteArray.mk #[]), Value.string (ByteArray.mk #[]), Value.string (ByteArray.mk #[]),
 Value.string (ByteArray.mk #[]), Value.int IntKind.i64 0, Value.int IntKind.i64 0,
 Value.string (ByteArray.mk #[]), Value.slice none 0 0, Value.string (ByteArray.mk #[])]
 (wrM 0),
 Blk.mk n_1 32
 [Value.string fu, Value.string fs, Value.string tu, Value.string ts, Value.int IntKind.i64 n,
 Value.int IntKind.i64 d, Value.string sj, Value.slice hp hn hc, Value.string bd]
 0]
 w' W →
 R
 (Ending.returned
 (Value.tuple
 #[Value.agg
 #[Value.string (ByteArray.mk #[]), Value.string (ByteArray.mk #[]), Value.string (ByteArray.mk #[]),
 Value.string (ByteArray.mk #[]), Value.int IntKind.i64 0, Value.int IntKind.i64 0,
 Value.string (ByteArray.mk #[]), Value.slice none 0 0, Value.string (ByteArray.mk #[])],
 Value.bool false]))
 W))
 (KeptL [n_2, n_1] W W ∧
 KeptL [n_2, n_1] W W ∧
 ∀ (W_1 : World),
 Loc w.heap.size
 [Blk.mk n_2 32
 [Value.string (ByteArray.mk #[]), Value.string (ByteArray.mk #[]), Value.string (ByteArray.mk #[]),
 Value.string (ByteArray.mk #[]), Value.int IntKind.i64 0, Value.int IntKind.i64 0,
 Value.string (ByteArray.mk #[]), Value.slice none 0 0, Value.string (ByteArray.mk #[])]
 (wrM 0),
 Blk.mk n_1 32
 [Value.string fu, Value.string fs, Value.string tu, Value.string ts, Value.int IntKind.i64 n,
 Value.int IntKind.i64 d, Value.string sj, Value.slice hp hn hc, Value.string bd]
 0]
 W W_1 →
 R
 (Ending.returned
 (Value.tuple
 #[Value.agg
 #[Value.string (ByteArray.mk #[]), Value.string (ByteArray.mk #[]), Value.string (ByteArray.mk #[]),
 Value.string (ByteArray.mk #[]), Value.int IntKind.i64 0, Value.int IntKind.i64 0,
 Value.string (ByteArray.mk #[]), Value.slice none 0 0, Value.string (ByteArray.mk #[])],
 Value.bool false]))
 W_1)
theorem vc_xbounce (fu : ByteArray) (fs : ByteArray) (tu : ByteArray) (ts : ByteArray) (n : Int) (d : Int) (sj : ByteArray) (hp : Option Addr) (hn : Nat) (hc : Nat) (bd : ByteArray) (s : ByteArray) (x : Int) (now : Int) (w : World) (R : Ending → World → Prop) (h : VC_xbounce fu fs tu ts n d sj hp hn hc bd s x now w R) : Calls Tryz.prog 100 ([Value.agg
    #[Value.string fu, Value.string fs, Value.string tu, Value.string ts, Value.int IntKind.i64 n,
      Value.int IntKind.i64 d, Value.string sj, Value.slice hp hn hc, Value.string bd],
  Value.string s, Value.int IntKind.i64 x, Value.int IntKind.i64 now] : List Value).toArray w R := by
  have e : execR2 { P := Tryz.prog, loops := [], pur := purM, tails := [(3, 9)], joins := [], boxes := [] } Tryz.f100.results.toList R (Tryz.f100.body.getD .skip) (initF [Value.agg
    #[Value.string fu, Value.string fs, Value.string tu, Value.string ts, Value.int IntKind.i64 n,
      Value.int IntKind.i64 d, Value.string sj, Value.slice hp hn hc, Value.string bd],
  Value.string s, Value.int IntKind.i64 x,
  Value.int IntKind.i64
    now] (Tryz.f100.ntmps - ([Value.agg
    #[Value.string fu, Value.string fs, Value.string tu, Value.string ts, Value.int IntKind.i64 n,
      Value.int IntKind.i64 d, Value.string sj, Value.slice hp hn hc, Value.string bd],
  Value.string s, Value.int IntKind.i64 x,
  Value.int IntKind.i64
    now] : List Value).length)) w = VC_xbounce fu fs tu ts n d sj hp hn hc bd s x now w R := by kernel_rfl
  have hb : Tryz.f100.body = some (Tryz.f100.body.getD .skip) := by kernel_rfl
  exact calls_of_exec2' (P := Tryz.prog) (fn := Tryz.f100) (c := Tryz.f100.body.getD .skip) (args := [Value.agg
    #[Value.string fu, Value.string fs, Value.string tu, Value.string ts, Value.int IntKind.i64 n,
      Value.int IntKind.i64 d, Value.string sj, Value.slice hp hn hc, Value.string bd],
  Value.string s, Value.int IntKind.i64 x, Value.int IntKind.i64 now]) (w := w) (R := R) purM_ok Tryz.func100 hb e h

end Go.Proofs.YtmlmdljnfokebaaGreatDoor

/- The formulas of functions by the symbolic evaluator, and that each gives the call's contract. Written by a program (gen.py). No condition. -/
namespace Go.Proofs.YtmlmdljnfokebaaGreatDoor
set_option maxRecDepth 100000
set_option linter.unusedVariables false

def VC_lto (fu : ByteArray) (fs : ByteArray) (tu : ByteArray) (ts : ByteArray) (n : Int) (d : Int) (sj : ByteArray) (hp : Option Addr) (hn : Nat) (hc : Nat) (bd : ByteArray) (w : World) (R : Ending → World → Prop) : Prop :=
 ∀ (n_1 n_2 : Nat) (W : World),
 Loc w.heap.size
 [Blk.mk n_2 26
 [Value.string (ByteArray.mk #[]), Value.string (ByteArray.mk #[]), Value.string (ByteArray.mk #[]),
 Value.string (ByteArray.mk #[]), Value.int IntKind.i64 0, Value.int IntKind.i64 0,
 Value.string (ByteArray.mk #[]), Value.slice none 0 0, Value.string (ByteArray.mk #[])]
 2,
 Blk.mk n_1 32
 [Value.string fu, Value.string fs, Value.string tu, Value.string ts, Value.int IntKind.i64 n,
 Value.int IntKind.i64 d, Value.string sj, Value.slice hp hn hc, Value.string bd]
 2]
 w W →
 ∃ (S : World → Prop),
 S W ∧
 ∃ (x : ByteArray),
 (∀ (w' : World), S w' → w'.cell? (Addr.mk n_1 0 none) = some (Value.string x)) ∧
 ∃ (x_1 : ByteArray),
 (∀ (w' : World), S w' → w'.cell? (Addr.mk n_1 (0 + 1) none) = some (Value.string x_1)) ∧
 ∃ (x_2 : ByteArray),
 (∀ (w' : World), S w' → w'.cell? (Addr.mk n_1 (0 + 2) none) = some (Value.string x_2)) ∧
 ∃ (x_3 : ByteArray),
 (∀ (w' : World), S w' → w'.cell? (Addr.mk n_1 (0 + 3) none) = some (Value.string x_3)) ∧
 ∃ (x_4 : Int),
 (∀ (w' : World), S w' → w'.cell? (Addr.mk n_1 (0 + 4) none) = some (Value.int IntKind.i64 x_4)) ∧
 ∃ (x_5 : Int),
 (∀ (w' : World), S w' → w'.cell? (Addr.mk n_1 (0 + 5) none) = some (Value.int IntKind.i64 x_5)) ∧
 ∃ (x_6 : ByteArray),
 (∀ (w' : World), S w' → w'.cell? (Addr.mk n_1 (0 + 6) none) = some (Value.string x_6)) ∧
 ∃ (x_7 : ByteArray),
 (∀ (w' : World), S w' → w'.cell? (Addr.mk n_1 (0 + 8) none) = some (Value.string x_7)) ∧
 ∃ (x_8 : ByteArray),
 (∀ (w' : World), S w' → w'.cell? (Addr.mk n_1 (0 + 8) none) = some (Value.string x_8)) ∧
 ((0 ≤ if 33000 < (↑x_8.size : Int) then 33000 else (↑x_8.size : Int)) ∧
 (if 33000 < (↑x_8.size : Int) then 33000 else (↑x_8.size : Int)) ≤ (↑x_7.size : Int)) ∧
 ∀ (n_3 : Nat) (w1 : World),
 NewB W
 (Obj.cells
 #[Value.string (ByteArray.mk #[]), Value.string (ByteArray.mk #[]),
 Value.string (ByteArray.mk #[]), Value.string (ByteArray.mk #[]), Value.int IntKind.i64 0,
 Value.int IntKind.i64 0, Value.string (ByteArray.mk #[]), Value.slice none 0 0,
 Value.string (ByteArray.mk #[])]
 26)
 n_3 w1 →
 S w1 ∧
 WrL w1 n_3 0 9 ∧
 ∀ (w1_1 : World),
 PutB w1 n_3 0
 [Value.string x, Value.string x_1, Value.string x_2, Value.string x_3,
 Value.int IntKind.i64 x_4, Value.int IntKind.i64 x_5, Value.string x_6,
 Value.slice none 0 0,
 Value.string
 (x_7.extract 0 (if 33000 < (↑x_8.size : Int) then 33000 else (↑x_8.size : Int)).toNat)]
 w1_1 →
 KeptL [n_2, n_1] W w1_1 ∧
 ∃ (I : List Value → World → Prop),
 ∃ (m : List Value → World → Nat),
 I [Value.int IntKind.i64 0] w1_1 ∧
 ∀ (x : Int) (w' : World),
 I [Value.int IntKind.i64 x] w' →
 Loc w.heap.size
 [Blk.mk n_2 26
 [Value.string (ByteArray.mk #[]), Value.string (ByteArray.mk #[]),
 Value.string (ByteArray.mk #[]), Value.string (ByteArray.mk #[]),
 Value.int IntKind.i64 0, Value.int IntKind.i64 0,
 Value.string (ByteArray.mk #[]), Value.slice none 0 0,
 Value.string (ByteArray.mk #[])]
 0,
 Blk.mk n_1 32
 [Value.string fu, Value.string fs, Value.string tu, Value.string ts,
 Value.int IntKind.i64 n, Value.int IntKind.i64 d, Value.string sj,
 Value.slice hp hn hc, Value.string bd]
 0]
 w' w' →
 bsp (decide (x < (↑hn : Int)) && decide (x < 20))
 (∀ (W : World),
 Loc w.heap.size
 [Blk.mk n_2 26
 [Value.string (ByteArray.mk #[]), Value.string (ByteArray.mk #[]),
 Value.string (ByteArray.mk #[]), Value.string (ByteArray.mk #[]),
 Value.int IntKind.i64 0, Value.int IntKind.i64 0,
 Value.string (ByteArray.mk #[]), Value.slice none 0 0,
 Value.string (ByteArray.mk #[])]
 0,
 Blk.mk n_1 32
 [Value.string fu, Value.string fs, Value.string tu, Value.string ts,
 Value.int IntKind.i64 n, Value.int IntKind.i64 d, Value.string sj,
 Value.slice hp hn hc, Value.string bd]
 0]
 w' W →
 ∃ (S : World → Prop),
 S W ∧
 ∃ (p : Option Addr),
 ∃ (n : Nat),
 ∃ (c : Nat),
 (∀ (w' : World),
 S w' → w'.cell? (Addr.mk n_3 (0 + 7) none) = some (Value.slice p n c)) ∧
 ∃ (p_1 : Option Addr),
 ∃ (n_4 : Nat),
 ∃ (c_1 : Nat),
 (∀ (w' : World),
 S w' →
 w'.cell? (Addr.mk n_1 (0 + 7) none) =
 some (Value.slice p_1 n_4 c_1)) ∧
 nn true p_1 fun (b o : Nat) =>
 (0 ≤ x ∧ x < (↑n_4 : Int)) ∧
 ∃ (x_9 : ByteArray),
 (∀ (w' : World),
 S w' →
 w'.cell? (Addr.mk b (o + x.toNat) none) =
 some (Value.string x_9)) ∧
 ∀ (n_5 : Nat) (w1 : World),
 NewB W (Obj.cells #[Value.string x_9] 9) n_5 w1 →
 S w1 ∧
 ∃ (base : Nat),
 ∃ (xs : List Value),
 ∃ (news : List Value),
 w1.ownsRow base 9 1 (Value.slice p n c) n xs ∧
 news.length = 1 ∧
 SrcP w1 (some (Addr.mk n_5 0 none)) news ∧
 n + 1 ≤ 9223372036854775807 ∧
 (n + 1) * 16 ≤ 140737488355328 ∧
 base ≤ w1.heap.size ∧
 ∀ (p' : Option Addr) (c' : Nat) (w'_1 : World),
 w'_1.ownsRow base 9 1 (Value.slice p' (n + 1) c')
 (n + 1) (xs ++ news) →
 w1.grownBy w'_1 (Value.slice p n c).ownBlock →
 (n + 1 ≤ c → p' = p ∧ c' = c) →
 ((∃ (u : Value),
 w'_1.cell? (Addr.mk n_3 (0 + 7) none) =
 some u) ∧
 w'_1.frozen? (Addr.mk n_3 (0 + 7) none) =
 false) ∧
 ∀ (w1 : World),
 PutB w'_1 n_3 (0 + 7) [Value.slice p' (n + 1) c']
 w1 →
 KeptL [n_2, n_1] W w1 ∧
 I
 [Value.int IntKind.i64
 (IntKind.i64.wrap (x + 1))]
 w1 ∧
 m
 [Value.int IntKind.i64
 (IntKind.i64.wrap (x + 1))]
 w1 <
 m [Value.int IntKind.i64 x] w')
 (∃ (x : ByteArray),
 ∃ (x_9 : ByteArray),
 ∃ (x_10 : ByteArray),
 ∃ (x_11 : ByteArray),
 ∃ (x_12 : Int),
 ∃ (x_13 : Int),
 ∃ (x_14 : ByteArray),
 ∃ (p : Option Addr),
 ∃ (n_4 : Nat),
 ∃ (c : Nat),
 ∃ (x_15 : ByteArray),
 AtL w' n_3 0
 [Value.string x, Value.string x_9, Value.string x_10,
 Value.string x_11, Value.int IntKind.i64 x_12,
 Value.int IntKind.i64 x_13, Value.string x_14, Value.slice p n_4 c,
 Value.string x_15] ∧
 ∀ (W : World),
 Loc w.heap.size
 [Blk.mk n_2 26
 [Value.string x, Value.string x_9, Value.string x_10,
 Value.string x_11, Value.int IntKind.i64 x_12,
 Value.int IntKind.i64 x_13, Value.string x_14,
 Value.slice p n_4 c, Value.string x_15]
 (wrM 0),
 Blk.mk n_1 32
 [Value.string fu, Value.string fs, Value.string tu,
 Value.string ts, Value.int IntKind.i64 n,
 Value.int IntKind.i64 d, Value.string sj, Value.slice hp hn hc,
 Value.string bd]
 0]
 w' W →
 R
 (Ending.returned
 (Value.agg
 #[Value.string x, Value.string x_9, Value.string x_10,
 Value.string x_11, Value.int IntKind.i64 x_12,
 Value.int IntKind.i64 x_13, Value.string x_14,
 Value.slice p n_4 c, Value.string x_15]))
 W)
theorem vc_lto (fu : ByteArray) (fs : ByteArray) (tu : ByteArray) (ts : ByteArray) (n : Int) (d : Int) (sj : ByteArray) (hp : Option Addr) (hn : Nat) (hc : Nat) (bd : ByteArray) (w : World) (R : Ending → World → Prop) (h : VC_lto fu fs tu ts n d sj hp hn hc bd w R) : Calls Tryz.prog 14 ([Value.agg
    #[Value.string fu, Value.string fs, Value.string tu, Value.string ts, Value.int IntKind.i64 n,
      Value.int IntKind.i64 d, Value.string sj, Value.slice hp hn hc, Value.string bd]] : List Value).toArray w R := by
  have e : execR2 { P := Tryz.prog, loops := [(3, [(4, Ck.int IntKind.i64)])], pur := purM, tails := [(1, 28), (5, 7)], joins := [], boxes := [] } Tryz.f14.results.toList R (Tryz.f14.body.getD .skip) (initF [Value.agg
    #[Value.string fu, Value.string fs, Value.string tu, Value.string ts, Value.int IntKind.i64 n,
      Value.int IntKind.i64 d, Value.string sj, Value.slice hp hn hc,
      Value.string
        bd]] (Tryz.f14.ntmps - ([Value.agg
    #[Value.string fu, Value.string fs, Value.string tu, Value.string ts, Value.int IntKind.i64 n,
      Value.int IntKind.i64 d, Value.string sj, Value.slice hp hn hc,
      Value.string bd]] : List Value).length)) w = VC_lto fu fs tu ts n d sj hp hn hc bd w R := by kernel_rfl
  have hb : Tryz.f14.body = some (Tryz.f14.body.getD .skip) := by kernel_rfl
  exact calls_of_exec2' (P := Tryz.prog) (fn := Tryz.f14) (c := Tryz.f14.body.getD .skip) (args := [Value.agg
    #[Value.string fu, Value.string fs, Value.string tu, Value.string ts, Value.int IntKind.i64 n,
      Value.int IntKind.i64 d, Value.string sj, Value.slice hp hn hc,
      Value.string bd]]) (w := w) (R := R) purM_ok Tryz.func14 hb e h

def VC_lof (fu : ByteArray) (fs : ByteArray) (tu : ByteArray) (ts : ByteArray) (n : Int) (d : Int) (sj : ByteArray) (hp : Option Addr) (hn : Nat) (hc : Nat) (bd : ByteArray) (w : World) (R : Ending → World → Prop) : Prop :=
 ∀ (n_1 n_2 n_3 : Nat) (W : World),
 Loc w.heap.size
 [Blk.mk n_3 32
 [Value.string fu, Value.string fs, Value.string tu, Value.string ts, Value.int IntKind.i64 n,
 Value.int IntKind.i64 d, Value.string sj, Value.slice none 0 0, Value.string bd]
 (wrM 2),
 Blk.mk n_2 32
 [Value.string (ByteArray.mk #[]), Value.string (ByteArray.mk #[]), Value.string (ByteArray.mk #[]),
 Value.string (ByteArray.mk #[]), Value.int IntKind.i64 0, Value.int IntKind.i64 0,
 Value.string (ByteArray.mk #[]), Value.slice none 0 0, Value.string (ByteArray.mk #[])]
 2,
 Blk.mk n_1 26
 [Value.string fu, Value.string fs, Value.string tu, Value.string ts, Value.int IntKind.i64 n,
 Value.int IntKind.i64 d, Value.string sj, Value.slice hp hn hc, Value.string bd]
 2]
 w W →
 ∃ (I : List Value → World → Prop),
 ∃ (m : List Value → World → Nat),
 I [Value.int IntKind.i64 0] W ∧
 ∀ (x : Int) (w' : World),
 I [Value.int IntKind.i64 x] w' →
 Loc w.heap.size
 [Blk.mk n_2 32
 [Value.string (ByteArray.mk #[]), Value.string (ByteArray.mk #[]), Value.string (ByteArray.mk #[]),
 Value.string (ByteArray.mk #[]), Value.int IntKind.i64 0, Value.int IntKind.i64 0,
 Value.string (ByteArray.mk #[]), Value.slice none 0 0, Value.string (ByteArray.mk #[])]
 0,
 Blk.mk n_1 26
 [Value.string fu, Value.string fs, Value.string tu, Value.string ts, Value.int IntKind.i64 n,
 Value.int IntKind.i64 d, Value.string sj, Value.slice hp hn hc, Value.string bd]
 0]
 w' w' →
 bsp (decide (x < (↑hn : Int)))
 (∀ (W : World),
 Loc w.heap.size
 [Blk.mk n_2 32
 [Value.string (ByteArray.mk #[]), Value.string (ByteArray.mk #[]), Value.string (ByteArray.mk #[]),
 Value.string (ByteArray.mk #[]), Value.int IntKind.i64 0, Value.int IntKind.i64 0,
 Value.string (ByteArray.mk #[]), Value.slice none 0 0, Value.string (ByteArray.mk #[])]
 0,
 Blk.mk n_1 26
 [Value.string fu, Value.string fs, Value.string tu, Value.string ts, Value.int IntKind.i64 n,
 Value.int IntKind.i64 d, Value.string sj, Value.slice hp hn hc, Value.string bd]
 0]
 w' W →
 ∃ (S : World → Prop),
 S W ∧
 ∃ (p : Option Addr),
 ∃ (n : Nat),
 ∃ (c : Nat),
 (∀ (w' : World), S w' → w'.cell? (Addr.mk n_3 (0 + 7) none) = some (Value.slice p n c)) ∧
 ∃ (p_1 : Option Addr),
 ∃ (n_4 : Nat),
 ∃ (c_1 : Nat),
 (∀ (w' : World), S w' → w'.cell? (Addr.mk n_1 (0 + 7) none) = some (Value.slice p_1 n_4 c_1)) ∧
 nn true p_1 fun (b o : Nat) =>
 (0 ≤ x ∧ x < (↑n_4 : Int)) ∧
 ∃ (x_1 : ByteArray),
 (∀ (w' : World), S w' → w'.cell? (Addr.mk b (o + x.toNat) none) = some (Value.string x_1)) ∧
 ∀ (n_5 : Nat) (w1 : World),
 NewB W (Obj.cells #[Value.string x_1] 9) n_5 w1 →
 S w1 ∧
 ∃ (base : Nat),
 ∃ (xs : List Value),
 ∃ (news : List Value),
 w1.ownsRow base 9 1 (Value.slice p n c) n xs ∧
 news.length = 1 ∧
 SrcP w1 (some (Addr.mk n_5 0 none)) news ∧
 n + 1 ≤ 9223372036854775807 ∧
 (n + 1) * 16 ≤ 140737488355328 ∧
 base ≤ w1.heap.size ∧
 ∀ (p' : Option Addr) (c' : Nat) (w'_1 : World),
 w'_1.ownsRow base 9 1 (Value.slice p' (n + 1) c') (n + 1) (xs ++ news) →
 w1.grownBy w'_1 (Value.slice p n c).ownBlock →
 (n + 1 ≤ c → p' = p ∧ c' = c) →
 ((∃ (u : Value), w'_1.cell? (Addr.mk n_3 (0 + 7) none) = some u) ∧
 w'_1.frozen? (Addr.mk n_3 (0 + 7) none) = false) ∧
 ∀ (w1 : World),
 PutB w'_1 n_3 (0 + 7) [Value.slice p' (n + 1) c'] w1 →
 KeptL [n_2, n_1] W w1 ∧
 I [Value.int IntKind.i64 (IntKind.i64.wrap (x + 1))] w1 ∧
 m [Value.int IntKind.i64 (IntKind.i64.wrap (x + 1))] w1 <
 m [Value.int IntKind.i64 x] w')
 (∃ (x : ByteArray),
 ∃ (x_1 : ByteArray),
 ∃ (x_2 : ByteArray),
 ∃ (x_3 : ByteArray),
 ∃ (x_4 : Int),
 ∃ (x_5 : Int),
 ∃ (x_6 : ByteArray),
 ∃ (p : Option Addr),
 ∃ (n_4 : Nat),
 ∃ (c : Nat),
 ∃ (x_7 : ByteArray),
 AtL w' n_3 0
 [Value.string x, Value.string x_1, Value.string x_2, Value.string x_3, Value.int IntKind.i64 x_4,
 Value.int IntKind.i64 x_5, Value.string x_6, Value.slice p n_4 c, Value.string x_7] ∧
 ∀ (W : World),
 Loc w.heap.size
 [Blk.mk n_2 32
 [Value.string x, Value.string x_1, Value.string x_2, Value.string x_3,
 Value.int IntKind.i64 x_4, Value.int IntKind.i64 x_5, Value.string x_6, Value.slice p n_4 c,
 Value.string x_7]
 (wrM 0),
 Blk.mk n_1 26
 [Value.string fu, Value.string fs, Value.string tu, Value.string ts, Value.int IntKind.i64 n,
 Value.int IntKind.i64 d, Value.string sj, Value.slice hp hn hc, Value.string bd]
 0]
 w' W →
 R
 (Ending.returned
 (Value.agg
 #[Value.string x, Value.string x_1, Value.string x_2, Value.string x_3,
 Value.int IntKind.i64 x_4, Value.int IntKind.i64 x_5, Value.string x_6, Value.slice p n_4 c,
 Value.string x_7]))
 W)
theorem vc_lof (fu : ByteArray) (fs : ByteArray) (tu : ByteArray) (ts : ByteArray) (n : Int) (d : Int) (sj : ByteArray) (hp : Option Addr) (hn : Nat) (hc : Nat) (bd : ByteArray) (w : World) (R : Ending → World → Prop) (h : VC_lof fu fs tu ts n d sj hp hn hc bd w R) : Calls Tryz.prog 11 ([Value.agg
    #[Value.string fu, Value.string fs, Value.string tu, Value.string ts, Value.int IntKind.i64 n,
      Value.int IntKind.i64 d, Value.string sj, Value.slice hp hn hc, Value.string bd]] : List Value).toArray w R := by
  have e : execR2 { P := Tryz.prog, loops := [(3, [(4, Ck.int IntKind.i64)])], pur := purM, tails := [(5, 7)], joins := [], boxes := [] } Tryz.f11.results.toList R (Tryz.f11.body.getD .skip) (initF [Value.agg
    #[Value.string fu, Value.string fs, Value.string tu, Value.string ts, Value.int IntKind.i64 n,
      Value.int IntKind.i64 d, Value.string sj, Value.slice hp hn hc,
      Value.string
        bd]] (Tryz.f11.ntmps - ([Value.agg
    #[Value.string fu, Value.string fs, Value.string tu, Value.string ts, Value.int IntKind.i64 n,
      Value.int IntKind.i64 d, Value.string sj, Value.slice hp hn hc,
      Value.string bd]] : List Value).length)) w = VC_lof fu fs tu ts n d sj hp hn hc bd w R := by kernel_rfl
  have hb : Tryz.f11.body = some (Tryz.f11.body.getD .skip) := by kernel_rfl
  exact calls_of_exec2' (P := Tryz.prog) (fn := Tryz.f11) (c := Tryz.f11.body.getD .skip) (args := [Value.agg
    #[Value.string fu, Value.string fs, Value.string tu, Value.string ts, Value.int IntKind.i64 n,
      Value.int IntKind.i64 d, Value.string sj, Value.slice hp hn hc,
      Value.string bd]]) (w := w) (R := R) purM_ok Tryz.func11 hb e h

end Go.Proofs.YtmlmdljnfokebaaGreatDoor

/- Chapter 49: addresses: ParseAddress, the reference's user, site, Text, Address; MailAddresses on worlds. -/
namespace Go.Proofs.YtmlmdljnfokebaaGreatDoor
open Go.RowKit

/-- The library's variable MaxLen holds a number. -/
def GX (w : World) : Prop := ∃ m, w.cell? ⟨0, 0, none⟩ = some (.int .i64 m)
theorem GX.k0 {w w' : World} (h : GX w) (hk : K0 w w') : GX w' := by
  obtain ⟨m, h⟩ := h; exact ⟨m, hk.cell' h (fun h => h)⟩

/-! ### Plain -/
def cntAt (s : ByteArray) : Nat := Lib.countByte s.data.toList 64
/-- The address that a text denotes, and the error. -/
def adrP (s : ByteArray) : (ByteArray × ByteArray) × Int :=
  if cntAt s ≠ 1 then ((⟨#[]⟩, ⟨#[]⟩), 3) else if userB (s.extract 0 (findC 64 s)) = false then ((⟨#[]⟩, ⟨#[]⟩), 12) else
  if siteE (s.extract (findC 64 s + 1) s.size) ≠ 0 then ((⟨#[]⟩, ⟨#[]⟩), siteE (s.extract (findC 64 s + 1) s.size)) else ((s.extract 0 (findC 64 s), s.extract (findC 64 s + 1) s.size), 0)
theorem cnt_step {s : ByteArray} {i : Nat} (h : i < s.size) : Lib.countByte (s.data.toList.take (i + 1)) 64 = Lib.countByte (s.data.toList.take i) 64 + (if at8 s i = 64 then 1 else 0) := by
  unfold Lib.countByte
  rw [List.take_add_one, at8_byte h, List.count_append]
  congr 1
  have := u8C 64 (at8_bd s i).1 (at8_bd s i).2
  by_cases e : at8 s i = 64
  · rw [if_pos e, this.2 e]; rfl
  · rw [if_neg e]
    have h1 : ¬ (at8 s i).toNat.toUInt8 = 64 := fun h => e (this.1 h)
    show List.count 64 [(at8 s i).toNat.toUInt8] = 0
    rw [List.count_singleton]
    simp [h1]
theorem cnt_one {s : ByteArray} (h : cntAt s = 1) : findC 64 s < s.size := by
  have hf := findC_first 64 s
  rcases Nat.lt_or_ge (findC 64 s) s.size with h' | h'
  · exact h'
  · exfalso
    have he : findC 64 s = s.size := by have := hf.2.1; omega
    have h0 : cntAt s = 0 := by
      unfold cntAt Lib.countByte
      rw [List.count_eq_zero]
      intro hm
      obtain ⟨j, hj, e⟩ := List.getElem_of_mem hm
      have hj' : j < s.size := by simpa using hj
      have := (getC 64).1 (show s.data.toList[j]? = some 64 by rw [List.getElem?_eq_getElem hj, e])
      exact hf.2.2.1 j (by omega) (by omega) this.2
    omega
theorem ext_all (s : ByteArray) : (⟨s.data.toList.toArray⟩ : ByteArray) = s := by simp

/-! ### The program's -/
theorem mparse_any (s : ByteArray) (w : World) (hs : s.size ≤ 1073741824) (hG : GX w) :
    Calls Tryz.prog 67 #[.string s] w fun e w' => e = .returned (.tuple #[.agg #[.string (adrP s).1.1, .string (adrP s).1.2], .int .i64 (adrP s).2]) ∧ K0 w w' := by
  refine vc_mparse s w _ (fun n W hW => ?_)
  have kW : K0 w W := hW.kk rfl
  unfold adrP
  refine ⟨(Tryz.strings_Count_one s 64 W).mono fun e w1 ⟨he, hw⟩ => ⟨_, he, ?_⟩⟩
  subst hw
  refine ⟨.refl _ _, bsp_intro (fun h => fun W2 hW2 => ?_) (fun h => ?_)⟩
  · have h : cntAt s ≠ 1 := by simp at h; unfold cntAt; omega
    rw [if_pos h]; exact ⟨rfl, hW2.k0 kW⟩
  have h1 : cntAt s = 1 := by simp at h; unfold cntAt; omega
  rw [if_neg (by omega)]
  have hlt := cnt_one h1
  have hf := findC_first 64 s
  have hcut := cut_hit hf hlt
  obtain ⟨mm, hG1⟩ := hG.k0 kW
  refine ⟨(Tryz.strings_Cut s ⟨#[64]⟩ mm w1 (by omega) hG1).mono fun e w2 ⟨he, k, hw⟩ => ?_⟩
  rw [show (⟨#[64]⟩ : ByteArray).data.toList = [64] from rfl, hcut] at he
  simp only [ext_all] at he
  have k2 : K0 w1 w2 := by rw [hw]; exact ⟨rfl, rfl, rfl, Nat.le_refl _, fun _ _ _ => rfl⟩
  generalize s.extract 0 (findC 64 s) = u at *
  generalize s.extract (findC 64 s + 1) s.size = t at *
  refine ⟨_, _, _, he, .of_k0 k2, ?_⟩
  refine ⟨(user_any u w2).mono fun e w3 ⟨he, k3⟩ => ⟨_, he, .of_k0 k3, bsp_intro (fun h => fun W2 hW2 => ?_) (fun h => ?_)⟩⟩
  · rw [if_pos (by simpa using h)]; exact ⟨rfl, hW2.k0 ((kW.trans k2).trans k3)⟩
  rw [if_neg (by simpa using h)]
  refine ⟨(siteK_any t w3).mono fun e w4 ⟨he, k4⟩ => ⟨_, _, he, .of_k0 k4, bsp_intro (fun h => fun W2 hW2 => ?_) (fun h => fun W2 hW2 => ?_)⟩⟩
  · rw [if_pos (show siteE t ≠ 0 by simpa [siteE] using h)]; exact ⟨rfl, hW2.k0 (((kW.trans k2).trans k3).trans k4)⟩
  · rw [if_neg (show ¬ siteE t ≠ 0 by simpa [siteE] using h)]; exact ⟨rfl, hW2.k0 (((kW.trans k2).trans k3).trans k4)⟩

/-! ### The reference's -/
theorem xuser_any (s : ByteArray) (w : World) (hs : s.size ≤ 4611686018427387904) :
    Calls Tryz.prog 74 #[.string s] w fun e w' => e = .returned (.bool (userB s)) ∧ K0 w w' := by
  refine vc_xuser s w _ ?_
  refine ⟨fun vs w' => ∃ i : Nat, vs = [.int .i64 (i : Int)] ∧ i ≤ s.size ∧ (∀ j, j < i → userC (at8 s j) = true) ∧ K0 w w',
    fun vs _ => (match vs with | .int _ x :: _ => s.size - x.toNat | _ => 0), ⟨0, rfl, by omega, (fun j h => by omega), .refl _ _⟩, ?_⟩
  rintro x w1 ⟨i, hv, hi, hall, k1⟩
  simp only [List.cons.injEq, Value.int.injEq, true_and, and_true] at hv
  subst hv
  refine bsp_intro (fun hlt => ?_) (fun hge => ?_)
  · have hlt : i < s.size := by simp at hlt; omega
    rw [Int.toNat_natCast]
    have eC : (!lowerB (at8 s i) && !digitB (at8 s i) && at8 s i != 45 && at8 s i != 95 && at8 s i != 46 && at8 s i != 43) = !userC (at8 s i) := by
      unfold userC
      simp only [bne]
      cases lowerB (at8 s i) <;> cases digitB (at8 s i) <;> simp
    rw [eC]
    refine ⟨⟨by omega, by omega⟩, bsp_intro (fun h => ?_) (fun h => ?_)⟩
    · have h : userC (at8 s i) = false := by simpa using h
      have : userB s = false := by
        unfold userB
        have : ((List.range s.size).all fun i => userC (at8 s i)) = false := by
          rw [List.all_eq_false]; exact ⟨i, List.mem_range.2 hlt, by simp [h]⟩
        rw [this]; simp
      rw [this]; exact ⟨rfl, k1⟩
    · have h : userC (at8 s i) = true := by simpa using h
      refine ⟨⟨i + 1, by rw [inc64 (by omega)], hlt, fun j hj => ?_, k1⟩, by rw [inc64 (by omega)]; simp only [Int.toNat_natCast]; omega⟩
      by_cases e : j = i
      · rw [e]; exact h
      · exact hall j (by omega)
  · have hi : i = s.size := by simp at hge; omega
    subst hi
    have : userB s = decide (s.size ≤ 40) := by
      unfold userB
      have : ((List.range s.size).all fun i => userC (at8 s i)) = true := all_at.2 fun j hj => hall j hj
      rw [this]; simp
    refine ⟨?_, k1⟩
    rw [this]
    congr 2
    apply decide_eq_decide.2
    omega
theorem xsite_any (s : ByteArray) (w : World) : Calls Tryz.prog 75 #[.string s] w fun e w' => e = .returned (.int .i64 (siteE s)) ∧ K0 w w' :=
  vc_xsite s w _ ⟨(refSite_any s w).mono fun e w1 ⟨he, hw⟩ => ⟨_, _, he, by subst hw; exact .refl _ _, rfl, by rw [hw]; exact .refl _ _⟩⟩
theorem xtext_any (a b : ByteArray) (w : World) (ha : a.size ≤ 1073741824) (hb : b.size ≤ 1073741824) :
    Calls Tryz.prog 45 #[.agg #[.string a, .string b]] w fun e w' => e = .returned (.string (a ++ ⟨#[64]⟩ ++ b)) ∧ K0 w w' := by
  refine vc_xtext a b w _ fun n => ⟨nneg (by rw [size_one]; omega), nneg (by rw [ByteArray.size_append, size_one]; omega), fun W hW => ⟨rfl, hW.kk rfl⟩⟩
theorem xaddr_any (s : ByteArray) (w : World) (hs : s.size ≤ 1073741824) :
    Calls Tryz.prog 35 #[.string s] w fun e w' => e = .returned (.tuple #[.agg #[.string (adrP s).1.1, .string (adrP s).1.2], .int .i64 (adrP s).2]) ∧ K0 w w' := by
  refine vc_xaddr s w _ (fun n W hW => ?_)
  have kW : K0 w W := hW.kk rfl
  unfold adrP
  refine ⟨fun vs w' => ∃ (i c p : Nat), vs = [.int .i64 (i : Int), .int .i64 (c : Int), .int .i64 (p : Int)] ∧ i ≤ s.size ∧ c = Lib.countByte (s.data.toList.take i) 64 ∧ c ≤ i ∧ p ≤ i ∧ (c = 0 → ∀ j, j < i → at8 s j ≠ 64) ∧ (c = 1 → p < i ∧ at8 s p = 64 ∧ ∀ j, j < p → at8 s j ≠ 64) ∧ K0 w w',
    fun vs _ => (match vs with | .int _ x :: _ => s.size - x.toNat | _ => 0), ⟨0, 0, 0, rfl, by omega, rfl, by omega, by omega, (fun _ j h => by omega), (fun h => by omega), kW⟩, ?_⟩
  rintro x x1 x2 w1 ⟨i, c, p, hv, hi, hc, hci, hpi, h0, h1, k1⟩ hL
  simp only [List.cons.injEq, Value.int.injEq, true_and, and_true] at hv
  obtain ⟨rfl, rfl, rfl⟩ := hv
  refine bsp_intro (fun hlt => ?_) (fun hge => ?_)
  · have hlt : i < s.size := by simp at hlt; omega
    rw [Int.toNat_natCast]
    have hst := cnt_step hlt
    refine ⟨⟨by omega, by omega⟩, bsp_intro (fun h => ?_) (fun h => ?_)⟩
    · have h : at8 s i = 64 := by simpa using h
      rw [if_pos h] at hst
      refine ⟨⟨i + 1, c + 1, i, by rw [inc64 (by omega), inc64 (by omega)], hlt, by omega, by omega, by omega, (fun h => by omega), fun hc1 => ⟨by omega, h, fun j hj => h0 (by omega) j hj⟩, k1⟩, by rw [inc64 (by omega)]; simp only [Int.toNat_natCast]; omega⟩
    · have h : at8 s i ≠ 64 := by simpa using h
      rw [if_neg h] at hst
      refine ⟨⟨i + 1, c, p, by rw [inc64 (by omega)], hlt, by omega, by omega, by omega, fun hc0 j hj => ?_, fun hc1 => ⟨by have := (h1 hc1).1; omega, (h1 hc1).2⟩, k1⟩, by rw [inc64 (by omega)]; simp only [Int.toNat_natCast]; omega⟩
      by_cases e : j = i
      · rw [e]; exact h
      · exact h0 hc0 j (by omega)
  · have hi : i = s.size := by simp at hge; omega
    subst hi
    have hca : c = cntAt s := by
      rw [hc]; unfold cntAt
      congr 1
      exact List.take_of_length_le (by simp)
    refine bsp_intro (fun h => fun W2 hW2 => ?_) (fun h => ?_)
    · rw [if_pos (by simp at h; omega)]; exact ⟨rfl, hW2.k0 k1⟩
    have hc1 : c = 1 := by simp at h; omega
    rw [if_neg (by omega)]
    obtain ⟨hp1, hp2, hp3⟩ := h1 hc1
    have hfe : findC 64 s = p := (findC_first 64 s).uniq ⟨by omega, by omega, fun j _ hj => hp3 j hj, fun _ => hp2⟩
    rw [hfe, inc64 (by omega), Int.toNat_natCast, Int.toNat_natCast]
    have hu : (s.extract 0 p).size ≤ 1073741824 := by rw [ByteArray.size_extract]; omega
    generalize s.extract 0 p = u at *
    generalize s.extract (p + 1) s.size = t at *
    refine ⟨⟨by omega, by omega⟩, ⟨(xuser_any u w1 (by omega)).mono fun e w3 ⟨he, k3⟩ => ⟨_, he, .of_k0 k3, bsp_intro (fun h => fun W2 hW2 => ?_) (fun h => ?_)⟩⟩⟩
    · rw [if_pos (by simpa using h)]; exact ⟨rfl, hW2.k0 (k1.trans k3)⟩
    rw [if_neg (by simpa using h)]
    refine ⟨⟨by omega, by omega⟩, ⟨(xsite_any t w3).mono fun e w4 ⟨he, k4⟩ => ⟨_, he, .of_k0 k4, bsp_intro (fun h => ?_) (fun h => ?_)⟩⟩⟩
    · rw [if_pos (by simpa using h)]
      exact ⟨⟨by omega, by omega⟩, ⟨(xsite_any t w4).mono fun e w5 ⟨he, k5⟩ => ⟨_, he, .of_k0 k5, fun W2 hW2 => ⟨rfl, hW2.k0 (((k1.trans k3).trans k4).trans k5)⟩⟩⟩⟩
    · rw [if_neg (by simpa using h)]
      exact ⟨⟨by omega, by omega⟩, ⟨by omega, by omega⟩, fun W2 hW2 => ⟨rfl, hW2.k0 ((k1.trans k3).trans k4)⟩⟩

/-! ### The statement -/
theorem adr_back {s : ByteArray} (h : (adrP s).2 = 0) : (adrP s).1.1 ++ ⟨#[64]⟩ ++ (adrP s).1.2 = s := by
  unfold adrP at *
  split at h
  · cases h
  rename_i h1
  rw [if_neg h1]
  have h1 : cntAt s = 1 := Classical.byContradiction h1
  split at h
  · cases h
  rename_i h2
  rw [if_neg h2]
  split at h
  · rename_i h3; exact absurd h h3
  rename_i h3
  rw [if_neg h3]
  have hlt := cnt_one h1
  have hf := findC_first 64 s
  have h64 := hf.2.2.2 hlt
  generalize findC 64 s = i at *
  show s.extract 0 i ++ ⟨#[64]⟩ ++ s.extract (i + 1) s.size = s
  have e64 : (⟨#[64]⟩ : ByteArray) = s.extract i (i + 1) := by
    apply ByteArray.ext_getElem
    · rw [size_one, ByteArray.size_extract]; omega
    · intro k hk hk'
      rw [size_one] at hk
      obtain rfl : k = 0 := by omega
      have a1 := at8_extract s i (i + 1) 0 (by omega) (by omega)
      rw [show i + 0 = i from rfl, h64, at8_lt _ _ hk'] at a1
      apply UInt8.toNat_inj.1
      have a2 : ((s.extract i (i + 1))[0].toNat : Int) = 64 := a1
      show (64 : UInt8).toNat = _
      have : (64 : UInt8).toNat = 64 := rfl
      omega
  rw [e64, ByteArray.extract_append_extract, Nat.zero_min, Nat.max_eq_right (Nat.le_succ i), ByteArray.extract_append_extract, Nat.zero_min, Nat.max_eq_right (by omega)]
  simp

end Go.Proofs.YtmlmdljnfokebaaGreatDoor

/- Chapter 49: the reference's words, squeezed texts, printable texts, decimal numbers. Texts have at most 2^30 bytes. -/
namespace Go.Proofs.YtmlmdljnfokebaaGreatDoor
open Go.RowKit

/-! ### Words -/
theorem wordsF_fuel (s : ByteArray) : ∀ (f g i : Nat), s.size - i ≤ f → s.size - i ≤ g → wordsF s f i = wordsF s g i
  | 0, 0, _, _, _ => rfl
  | 0, g + 1, i, h, _ => by
    show [] = wordsF s (g + 1) i
    unfold wordsF
    rw [if_neg (by omega)]
  | f + 1, 0, i, _, h => by
    show wordsF s (f + 1) i = []
    unfold wordsF
    rw [if_neg (by omega)]
  | f + 1, g + 1, i, h1, h2 => by
    unfold wordsF
    by_cases hi : i < s.size
    · rw [if_pos hi, if_pos hi]
      have a := skipN_to blankB s (i := i) (by omega)
      have b := skipN_to blackB s a.2.1
      have hid : i < skipN blackB s (skipN blankB s i) := by
        rcases Nat.lt_or_ge i (skipN blackB s (skipN blankB s i)) with h2 | h2
        · exact h2
        · have e1 : skipN blankB s i = i := by have := a.1; have := b.1; omega
          have e2 : skipN blackB s i = i := by have := b.1; rw [e1] at this h2; omega
          have f1 := a.2.2.2 (by omega)
          rw [e1] at f1
          have f2 := b.2.2.2 (by rw [e1, e2]; omega)
          rw [e1, e2] at f2
          unfold blackB at f2
          rw [f1] at f2
          cases f2
      rw [wordsF_fuel s f g _ (by omega) (by omega)]
    · rw [if_neg hi, if_neg hi]
def WF (s : ByteArray) (i : Nat) : List ByteArray := wordsF s s.size i
theorem WF_end {s : ByteArray} {i : Nat} (h : s.size ≤ i) : WF s i = [] := by
  unfold WF
  cases hs : s.size with
  | zero => rfl
  | succ n => unfold wordsF; rw [if_neg (by omega)]
theorem skip_step {p : Int → Bool} {s : ByteArray} {i : Nat} (hi : i < s.size) (h : p (at8 s i) = true) : skipN p s i = skipN p s (i + 1) := by
  have b := skipN_to p s (i := i + 1) (by omega)
  refine (skipN_to p s (by omega)).uniq ⟨by have := b.1; omega, b.2.1, fun j j1 j2 => ?_, b.2.2.2⟩
  by_cases e : j = i
  · rw [e]; exact h
  · exact b.2.2.1 j (by omega) j2
theorem WF_step {s : ByteArray} {i : Nat} (hi : i < s.size) : WF s i = if skipN blankB s i < skipN blackB s (skipN blankB s i) then s.extract (skipN blankB s i) (skipN blackB s (skipN blankB s i)) :: WF s (skipN blackB s (skipN blankB s i)) else WF s (skipN blackB s (skipN blankB s i)) := by
  have a := skipN_to blankB s (i := i) (by omega)
  have b := skipN_to blackB s a.2.1
  have e : WF s i = wordsF s (s.size + 1) i := wordsF_fuel s _ _ i (by omega) (by omega)
  rw [e]
  unfold wordsF
  rw [if_pos hi]
  rfl
theorem WF_blank {s : ByteArray} {i : Nat} (hi : i < s.size) (h : blankB (at8 s i) = true) : WF s i = WF s (i + 1) := by
  have e := skip_step hi h
  rw [WF_step hi, e]
  by_cases h1 : i + 1 < s.size
  · rw [WF_step h1]
  · have b := skipN_to blankB s (i := i + 1) (by omega)
    have e1 : skipN blankB s (i + 1) = s.size := by have := b.1; have := b.2.1; omega
    have c := skipN_to blackB s (i := s.size) (Nat.le_refl _)
    have e2 : skipN blackB s s.size = s.size := by have := c.1; have := c.2.1; omega
    rw [e1, e2, if_neg (by omega), WF_end (Nat.le_refl _), WF_end (by omega)]
theorem WF_word {s : ByteArray} {a i : Nat} (ha : a < i) (hi : i ≤ s.size) (hb : ∀ j, a ≤ j → j < i → blankB (at8 s j) = false) (he : i < s.size → blankB (at8 s i) = true) : WF s a = s.extract a i :: WF s i := by
  have e1 : skipN blankB s a = a := (skipN_to blankB s (by omega)).uniq ⟨Nat.le_refl _, by omega, fun j _ _ => by omega, fun _ => hb a (Nat.le_refl _) ha⟩
  have e2 : skipN blackB s a = i := (skipN_to blackB s (by omega)).uniq ⟨by omega, hi, fun j j1 j2 => by unfold blackB; rw [hb j j1 j2]; rfl, fun h => by unfold blackB; rw [he h]; rfl⟩
  rw [WF_step (by omega), e1, e2, if_pos ha]
theorem r1words_any (s : ByteArray) (w : World) (hz : s.size ≤ 1073741824) :
    Calls Tryz.prog 37 #[.string s] w fun e w' => (∃ (p : Option Addr) (c : Nat), e = .returned (.slice p (words s).length c) ∧ w'.ownsRow w.heap.size 9 1 (.slice p (words s).length c) (words s).length ((words s).map .string)) ∧ K0 w w' := by
  refine vc_r1words s w _ ?_
  have hW0 : [] ++ WF s 0 = words s := rfl
  generalize words s = G at hW0
  refine ⟨fun vs w' => ∃ (i : Nat) (fr : Int) (acc : List ByteArray) (p : Option Addr) (c : Nat), vs = [.int .i64 (i : Int), .int .i64 fr, .slice p acc.length c] ∧ i ≤ s.size + 1 ∧ acc.length ≤ i ∧ ((fr = -1 ∧ acc ++ WF s i = G) ∨ (∃ a : Nat, fr = a ∧ a < i ∧ i ≤ s.size ∧ (∀ j, a ≤ j → j < i → blankB (at8 s j) = false) ∧ acc ++ WF s a = G)) ∧ w'.ownsRow w.heap.size 9 1 (.slice p acc.length c) acc.length (acc.map .string) ∧ K0 w w',
    fun vs _ => (match vs with | .int _ x :: _ => s.size + 1 - x.toNat | _ => 0), ⟨0, -1, [], none, 0, rfl, by omega, by simp, .inl ⟨rfl, hW0⟩, World.ownsRow_nil _ _ _ _, .refl _ _⟩, ?_⟩
  rintro x x1 p n c w1 ⟨i, fr, acc, p', c', hv, hi, hai, hst, ho, k1⟩
  simp only [List.cons.injEq, Value.int.injEq, Value.slice.injEq, true_and, and_true] at hv
  obtain ⟨rfl, rfl, ⟨rfl, rfl, rfl⟩⟩ := hv
  refine bsp_intro (fun hle => ?_) (fun hgt => ?_)
  · have hle : i ≤ s.size := by simp at hle; omega
    rw [Int.toNat_natCast]
    refine ⟨gimp_intro fun h => ⟨by omega, by simpa using h⟩, bsp_intro (fun h => ?_) (fun h => ?_)⟩
    · simp only [Bool.and_eq_true, decide_eq_true_eq, Bool.not_eq_true'] at h
      have hlt : i < s.size := by omega
      rcases hst with ⟨rfl, hE⟩ | ⟨a, rfl, ha, hai2, hb, hE⟩
      · refine bsp_intro (fun _ => ?_) (fun h => by simp at h)
        refine ⟨⟨i + 1, i, acc, p, c, by rw [inc64 (by omega)], by omega, by omega, .inr ⟨i, rfl, by omega, hlt, fun j j1 j2 => ?_, hE⟩, ho, k1⟩, by rw [inc64 (by omega)]; simp only [Int.toNat_natCast]; omega⟩
        obtain rfl : j = i := by omega
        exact h.2
      · refine bsp_intro (fun h => by first | (simp at h; done) | (simp at h; omega)) (fun _ => ?_)
        refine ⟨⟨i + 1, a, acc, p, c, by rw [inc64 (by omega)], by omega, by omega, .inr ⟨a, rfl, by omega, hlt, fun j j1 j2 => ?_, hE⟩, ho, k1⟩, by rw [inc64 (by omega)]; simp only [Int.toNat_natCast]; omega⟩
        by_cases e : j = i
        · rw [e]; exact h.2
        · exact hb j j1 (by omega)
    · have hbl : i < s.size → blankB (at8 s i) = true := fun hlt => by
        simp only [Bool.and_eq_false_iff, decide_eq_false_iff_not, Bool.not_eq_false'] at h
        rcases h with h | h
        · omega
        · exact h
      have hnext : WF s i = WF s (i + 1) := by
        rcases Nat.lt_or_ge i s.size with hlt | hge
        · exact WF_blank hlt (hbl hlt)
        · rw [WF_end hge, WF_end (by omega)]
      rcases hst with ⟨rfl, hE⟩ | ⟨a, rfl, ha, hai2, hb, hE⟩
      · refine bsp_intro (fun h => by simp at h) (fun _ => ?_)
        exact ⟨⟨i + 1, -1, acc, p, c, by rw [inc64 (by omega)], by omega, by omega, .inl ⟨rfl, by rw [← hnext]; exact hE⟩, ho, k1⟩, by rw [inc64 (by omega)]; simp only [Int.toNat_natCast]; omega⟩
      · refine bsp_intro (fun _ => ?_) (fun h => by first | (simp at h; done) | (simp at h; omega))
        rw [Int.toNat_natCast]
        refine ⟨⟨by omega, by omega, by omega⟩, fun n9 W hW => ?_⟩
        have k3 : K0 w1 W := hW.kk rfl
        have ho3 := owns_kp ho k3 (fun _ _ h => h)
        refine ⟨_, _, ho3, by omega, by omega, Nat.le_trans k1.size k3.size, fun p4 c4 w4 ho4 hg4 _ => ?_⟩
        have hk4 := kp_grown hg4
        have kk : K0 w w4 := (k1.trans k3).fresh hk4 (fun j hj e => by have := own_ge ho3 e; omega)
        refine ⟨.of_kp hk4 (fun z hz => by cases hz), ⟨i + 1, -1, acc ++ [s.extract a i], p4, c4, ?_, by omega, by simp; omega, .inl ⟨rfl, ?_⟩, ?_, kk⟩, by rw [inc64 (by omega)]; simp only [Int.toNat_natCast]; omega⟩
        · rw [inc64 (by omega), List.length_append]; rfl
        · rw [← hnext, ← hE, WF_word ha hai2 hb hbl]; simp
        · rw [List.length_append, List.map_append]; exact ho4
  · have hi2 : i = s.size + 1 := by simp at hgt; omega
    rcases hst with ⟨rfl, hE⟩ | ⟨a, rfl, ha, hai2, hb, hE⟩
    · rw [WF_end (by omega), List.append_nil] at hE
      subst hE
      exact ⟨⟨p, c, rfl, ho⟩, k1⟩
    · omega
theorem r1squeeze_any (s : ByteArray) (w : World) (hz : s.size ≤ 1073741824) :
    Calls Tryz.prog 128 #[.string s] w fun e w' => e = .returned (.string (squeeze s)) ∧ K0 w w' := by
  have hs := wordsF_sum s s.size 0 (by omega)
  refine vc_r1squeeze s w _ ⟨(r1words_any s w hz).mono fun e w1 ⟨⟨p, c, he, ho⟩, k1⟩ => ⟨_, _, _, he, .of_k0 k1, ?_⟩⟩
  have hR := strP_own ho
  have hl : (words s).length ≤ 1073741824 ∧ sumZ (words s) ≤ 1073741824 := by unfold words; omega
  unfold squeeze
  generalize words s = l at *
  refine ⟨fun vs w' => ∃ i : Nat, vs = [.int .i64 (i : Int), .string (joinT 32 (l.take i))] ∧ i ≤ l.length ∧ K0 w1 w',
    fun vs _ => (match vs with | .int _ x :: _ => l.length - x.toNat | _ => 0), ⟨0, rfl, by omega, .refl _ _⟩, ?_⟩
  rintro x x1 w2 ⟨i, hv, hi, k2⟩
  simp only [List.cons.injEq, Value.int.injEq, Value.string.injEq, true_and, and_true] at hv
  obtain ⟨rfl, rfl⟩ := hv
  have hj := joinT_size 32 (l.take i)
  have hst := sumZ_take l i
  have hlt2 : (l.take i).length ≤ l.length := by rw [List.length_take]; omega
  refine bsp_intro (fun hlt => ?_) (fun hge => ?_)
  · have hlt : i < l.length := by simp at hlt; omega
    obtain ⟨z, b, o, hz', hp, hc⟩ := str_get (hR.k0 k2) hlt
    have hs2 := sumZ_take l (i + 1)
    rw [take_snoc hz', sumZ_snoc] at hs2
    rw [Int.toNat_natCast]
    refine bsp_intro (fun h => ?_) (fun h => ?_)
    · have hne : l.take i ≠ [] := by intro e; rcases List.take_eq_nil_iff.1 e with e | e; simp at h; omega; rw [e] at hlt; simp at hlt
      refine ⟨nneg (by rw [size_one]; omega), nn_is hp ⟨⟨by omega, by omega⟩, z, hc, nneg (by rw [ByteArray.size_append, size_one]; omega), ⟨i + 1, by rw [inc64 (by omega), take_snoc hz', joinT_snoc 32 hne], hlt, k2⟩, by rw [inc64 (by omega)]; simp only [Int.toNat_natCast]; omega⟩⟩
    · have h0 : i = 0 := by simp at h; omega
      subst h0
      refine nn_is hp ⟨⟨by omega, by omega⟩, z, hc, nneg (by omega), ⟨1, ?_, hlt, k2⟩, by rw [inc64 (by omega)]; simp only [Int.toNat_natCast]; omega⟩
      rw [inc64 (by omega), take_snoc hz']
      show [_, Value.string (⟨#[]⟩ ++ z)] = [_, Value.string z]
      rw [nil_app]
  · have hi : i = l.length := by simp at hge; omega
    subst hi
    rw [List.take_length]
    exact ⟨rfl, k1.trans k2⟩
theorem prt_neg {s : ByteArray} : decide (0 ≤ prtN s) = !prtS s := by
  have h := skipN_to prtB s (i := 0) (by omega)
  unfold prtN
  generalize skipN prtB s 0 = a at *
  by_cases e : a = s.size
  · rw [if_pos e]
    have : prtS s = true := all_at.2 fun j hj => h.2.2.1 j (by omega) (by omega)
    rw [this]; rfl
  · rw [if_neg e]
    have hlt : a < s.size := by have := h.2.1; omega
    have : prtS s = false := by unfold prtS; rw [List.all_eq_false]; exact ⟨a, List.mem_range.2 hlt, by rw [h.2.2.2 hlt]; decide⟩
    rw [this]; simp
theorem r1printable_any (s : ByteArray) (w : World) (hz : s.size ≤ 1073741824) :
    Calls Tryz.prog 127 #[.string s] w fun e w' => e = .returned (.int .i64 (prtN s)) ∧ K0 w w' := by
  refine vc_r1printable s w _ ?_
  refine ⟨fun vs w' => ∃ i : Nat, vs = [.int .i64 (i : Int)] ∧ i ≤ s.size ∧ (∀ j, j < i → prtB (at8 s j) = true) ∧ K0 w w',
    fun vs _ => (match vs with | .int _ x :: _ => s.size - x.toNat | _ => 0), ⟨0, rfl, by omega, (fun j h => by omega), .refl _ _⟩, ?_⟩
  rintro x w1 ⟨i, hv, hi, hall, k1⟩
  simp only [List.cons.injEq, Value.int.injEq, true_and, and_true] at hv
  subst hv
  refine bsp_intro (fun hlt => ?_) (fun hge => ?_)
  · have hlt : i < s.size := by simp at hlt; omega
    rw [Int.toNat_natCast]
    have eP : (!visB (at8 s i) && at8 s i != 32) = !prtB (at8 s i) := by unfold prtB; cases visB (at8 s i) <;> simp [bne]
    rw [eP]
    refine ⟨⟨by omega, by omega⟩, gimp_intro fun _ => ⟨by omega, by omega⟩, bsp_intro (fun h => ?_) (fun h => ?_)⟩
    · have h : prtB (at8 s i) = false := by simpa using h
      have e : skipN prtB s 0 = i := (skipN_to prtB s (by omega)).uniq ⟨by omega, by omega, fun j _ hj => hall j hj, fun _ => h⟩
      unfold prtN
      rw [e, if_neg (by omega)]
      exact ⟨rfl, k1⟩
    · have h : prtB (at8 s i) = true := by simpa using h
      refine ⟨⟨i + 1, by rw [inc64 (by omega)], hlt, fun j hj => ?_, k1⟩, by rw [inc64 (by omega)]; simp only [Int.toNat_natCast]; omega⟩
      by_cases e : j = i
      · rw [e]; exact h
      · exact hall j (by omega)
  · have hi : i = s.size := by simp at hge; omega
    subst hi
    have e : skipN prtB s 0 = s.size := (skipN_to prtB s (by omega)).uniq ⟨by omega, by omega, fun j _ hj => hall j hj, fun h => by omega⟩
    unfold prtN
    rw [e, if_pos rfl]
    exact ⟨rfl, k1⟩

end Go.Proofs.YtmlmdljnfokebaaGreatDoor

/- Chapter 49, plain: a header's text is read field by field; what was printed reads as it was. No program in sight. -/
namespace Go.Proofs.YtmlmdljnfokebaaGreatDoor
open Go.RowKit

abbrev Fd := ByteArray × ByteArray
def okB (c : Int) : Bool := visB c || blankB c
def contB (l : ByteArray) : Bool := decide (0 < l.size) && blankB (at8 l 0)
/-- A word is added to a body. -/
def addB (b w : ByteArray) : ByteArray := (if b.size = 0 then b else b ++ ⟨#[32]⟩) ++ w
def joinW (b : ByteArray) (ws : List ByteArray) : ByteArray := ws.foldl addB b
def bigF (s : ByteArray) : Nat → Nat → Option Nat
  | 0, _ => none
  | f + 1, i => if i < s.size then
      (if skipN blankB s i < skipN blackB s (skipN blankB s i) then (if 900 < skipN blackB s (skipN blankB s i) - skipN blankB s i then some (skipN blankB s i) else bigF s f (skipN blackB s (skipN blankB s i)))
       else bigF s f (skipN blackB s (skipN blankB s i)))
    else none
/-- The first word behind a place that is too long. -/
def bigP (s : ByteArray) (i : Nat) : Option Nat := bigF s s.size i
theorem skip_far {s : ByteArray} {i : Nat} (hi : i < s.size) : i < skipN blackB s (skipN blankB s i) := by
  have a := skipN_to blankB s (i := i) (by omega)
  have b := skipN_to blackB s a.2.1
  rcases Nat.lt_or_ge i (skipN blackB s (skipN blankB s i)) with h2 | h2
  · exact h2
  · have e1 : skipN blankB s i = i := by have := a.1; have := b.1; omega
    have e2 : skipN blackB s i = i := by have := b.1; rw [e1] at this h2; omega
    have f1 := a.2.2.2 (by omega)
    rw [e1] at f1
    have f2 := b.2.2.2 (by rw [e1, e2]; omega)
    rw [e1, e2] at f2
    unfold blackB at f2
    rw [f1] at f2
    cases f2
theorem bigF_fuel (s : ByteArray) : ∀ (f g i : Nat), s.size - i ≤ f → s.size - i ≤ g → bigF s f i = bigF s g i
  | 0, 0, _, _, _ => rfl
  | 0, g + 1, i, h, _ => by
    show none = bigF s (g + 1) i
    unfold bigF
    rw [if_neg (by omega)]
  | f + 1, 0, i, _, h => by
    show bigF s (f + 1) i = none
    unfold bigF
    rw [if_neg (by omega)]
  | f + 1, g + 1, i, h1, h2 => by
    unfold bigF
    by_cases hi : i < s.size
    · rw [if_pos hi, if_pos hi]
      have hid := skip_far hi
      rw [bigF_fuel s f g _ (by omega) (by omega)]
    · rw [if_neg hi, if_neg hi]
theorem bigP_end {s : ByteArray} {i : Nat} (h : s.size ≤ i) : bigP s i = none := by
  unfold bigP
  cases hs : s.size with
  | zero => rfl
  | succ n => unfold bigF; rw [if_neg (by omega)]
theorem bigP_step {s : ByteArray} {i : Nat} (hi : i < s.size) : bigP s i = if skipN blankB s i < skipN blackB s (skipN blankB s i) then (if 900 < skipN blackB s (skipN blankB s i) - skipN blankB s i then some (skipN blankB s i) else bigP s (skipN blackB s (skipN blankB s i))) else bigP s (skipN blackB s (skipN blankB s i)) := by
  have e : bigP s i = bigF s (s.size + 1) i := bigF_fuel s _ _ i (by omega) (by omega)
  rw [e]
  unfold bigF
  rw [if_pos hi]
  rfl
theorem bigP_blank {s : ByteArray} {i : Nat} (hi : i < s.size) (h : blankB (at8 s i) = true) : bigP s i = bigP s (i + 1) := by
  have e := skip_step hi h
  rw [bigP_step hi, e]
  by_cases h1 : i + 1 < s.size
  · rw [bigP_step h1]
  · have b := skipN_to blankB s (i := i + 1) (by omega)
    have e1 : skipN blankB s (i + 1) = s.size := by have := b.1; have := b.2.1; omega
    have c := skipN_to blackB s (i := s.size) (Nat.le_refl _)
    have e2 : skipN blackB s s.size = s.size := by have := c.1; have := c.2.1; omega
    rw [e1, e2, if_neg (by omega), bigP_end (Nat.le_refl _), bigP_end (by omega)]
theorem bigP_word {s : ByteArray} {a i : Nat} (ha : a < i) (hi : i ≤ s.size) (hb : ∀ j, a ≤ j → j < i → blankB (at8 s j) = false) (he : i < s.size → blankB (at8 s i) = true) : bigP s a = if 900 < i - a then some a else bigP s i := by
  have e1 : skipN blankB s a = a := (skipN_to blankB s (by omega)).uniq ⟨Nat.le_refl _, by omega, fun j _ _ => by omega, fun _ => hb a (Nat.le_refl _) ha⟩
  have e2 : skipN blackB s a = i := (skipN_to blackB s (by omega)).uniq ⟨by omega, hi, fun j j1 j2 => by unfold blackB; rw [hb j j1 j2]; rfl, fun h => by unfold blackB; rw [he h]; rfl⟩
  rw [bigP_step (by omega), e1, e2, if_pos ha]
theorem bigF_none (s : ByteArray) : ∀ (f i : Nat), (∀ w ∈ wordsF s f i, w.size ≤ 900) → bigF s f i = none
  | 0, _, _ => rfl
  | f + 1, i, h => by
    unfold bigF
    unfold wordsF at h
    by_cases hi : i < s.size
    · rw [if_pos hi] at h ⊢
      have a := skipN_to blankB s (i := i) (by omega)
      have b := skipN_to blackB s a.2.1
      by_cases h1 : skipN blankB s i < skipN blackB s (skipN blankB s i)
      · rw [if_pos h1] at h ⊢
        have h2 := h _ List.mem_cons_self
        rw [ByteArray.size_extract] at h2
        have := b.2.1
        rw [if_neg (by omega)]
        exact bigF_none s f _ fun w hw => h w (List.mem_cons_of_mem _ hw)
      · rw [if_neg h1] at h ⊢
        exact bigF_none s f _ h
    · rw [if_neg hi]
theorem bigP_none {s : ByteArray} {i : Nat} (h : ∀ w ∈ WF s i, w.size ≤ 900) : bigP s i = none := bigF_none s _ i h

/-! ### Lines, headers -/
def lastB (out : List Fd) : ByteArray := match out[out.length - 1]? with | some x => x.2 | none => ⟨#[]⟩
def setL (out : List Fd) (b : ByteArray) : List Fd := match out[out.length - 1]? with | some x => out.set (out.length - 1) (x.1, b) | none => out
def bodyP (l : ByteArray) (st : Nat) (out : List Fd) : Sum (Nat × Int) (List Fd) := match bigP l st with
  | some j => .inl (j, 5)
  | none => if 8192 < (joinW (lastB out) (WF l st)).size then .inl (0, 5) else .inr (setL out (joinW (lastB out) (WF l st)))
/-- One line of a header: the place and the kind of the error, or the fields. -/
def lineP (l : ByteArray) (out : List Fd) : Sum (Nat × Int) (List Fd) :=
  if 998 < l.size then .inl (998, 5) else if skipN okB l 0 < l.size then .inl (skipN okB l 0, 6) else
  if contB l = true then (if out.length = 0 then .inl (0, 3) else bodyP l 0 out) else
  if findC 58 l = l.size then .inl (0, 3) else if nameB (l.extract 0 (findC 58 l)) = false then .inl (0, 12) else if out.length = 64 then .inl (0, 9) else
  bodyP l (findC 58 l + 1) (out ++ [(l.extract 0 (findC 58 l), ⟨#[]⟩)])
def notNl (c : Int) : Bool := c != 10
def nlN (s : ByteArray) (a : Nat) : Nat := skipN notNl s a
def prsF (s : ByteArray) : Nat → Nat → List Fd → List Fd × Int × Int
  | 0, _, out => (out, 0, 0)
  | f + 1, a, out => if a < s.size then (if nlN s a = s.size then ([], (s.size : Int), 4) else match lineP (s.extract a (nlN s a)) out with
      | .inl x => ([], ((a + x.1 : Nat) : Int), x.2)
      | .inr o => prsF s f (nlN s a + 1) o)
    else (out, 0, 0)
/-- The fields of a header, the place and the kind of the first error. -/
def prs (s : ByteArray) : List Fd × Int × Int := if 65536 < s.size then ([], 65536, 5) else prsF s s.size 0 []

theorem prsF_fuel (s : ByteArray) : ∀ (f g a : Nat) (out : List Fd), s.size - a ≤ f → s.size - a ≤ g → prsF s f a out = prsF s g a out
  | 0, 0, _, _, _, _ => rfl
  | 0, g + 1, a, out, h, _ => by
    show (out, (0 : Int), (0 : Int)) = prsF s (g + 1) a out
    unfold prsF
    rw [if_neg (by omega)]
  | f + 1, 0, a, out, _, h => by
    show prsF s (f + 1) a out = (out, (0 : Int), (0 : Int))
    unfold prsF
    rw [if_neg (by omega)]
  | f + 1, g + 1, a, out, h1, h2 => by
    unfold prsF
    by_cases hi : a < s.size
    · rw [if_pos hi, if_pos hi]
      have b := (skipN_to notNl s (i := a) (by omega)).1
      by_cases h3 : nlN s a = s.size
      · rw [if_pos h3, if_pos h3]
      · rw [if_neg h3, if_neg h3]
        have hb : a ≤ nlN s a := b
        cases lineP (s.extract a (nlN s a)) out with
        | inl x => rfl
        | inr o => exact prsF_fuel s f g _ o (by omega) (by omega)
    · rw [if_neg hi, if_neg hi]
/-- The rest of a header behind a place. -/
def prsR (s : ByteArray) (a : Nat) (out : List Fd) : List Fd × Int × Int := prsF s s.size a out
theorem prsR_end {s : ByteArray} {a : Nat} {out : List Fd} (h : s.size ≤ a) : prsR s a out = (out, 0, 0) := by
  unfold prsR
  cases hs : s.size with
  | zero => rfl
  | succ n => unfold prsF; rw [if_neg (by omega)]
theorem prsR_step {s : ByteArray} {a : Nat} {out : List Fd} (h : a < s.size) : prsR s a out = if nlN s a = s.size then ([], (s.size : Int), 4) else match lineP (s.extract a (nlN s a)) out with
      | .inl x => ([], ((a + x.1 : Nat) : Int), x.2)
      | .inr o => prsR s (nlN s a + 1) o := by
  have e : prsR s a out = prsF s (s.size + 1) a out := prsF_fuel s _ _ a out (by omega) (by omega)
  rw [e]
  unfold prsF
  rw [if_pos h]
  rfl

/-! ### What was printed -/
def foldLs : List ByteArray → Nat → ByteArray → List ByteArray
  | [], _, line => [line]
  | w :: r, k, line => if 0 < k ∧ 78 < line.size + 1 + w.size then line :: foldLs r (k + 1) (⟨#[32]⟩ ++ w) else foldLs r (k + 1) (line ++ (⟨#[32]⟩ ++ w))
def catL : List ByteArray → ByteArray
  | [] => ⟨#[]⟩
  | l :: r => l ++ ⟨#[10]⟩ ++ catL r
theorem app_nil (a : ByteArray) : (a ++ ⟨#[]⟩ : ByteArray) = a := by show a ++ ByteArray.empty = a; simp
theorem catL_app : ∀ (a b : List ByteArray), catL (a ++ b) = catL a ++ catL b
  | [], b => by rw [List.nil_append]; show _ = (⟨#[]⟩ : ByteArray) ++ catL b; rw [nil_app]
  | x :: a, b => by
    rw [List.cons_append]
    show x ++ ⟨#[10]⟩ ++ catL (a ++ b) = x ++ ⟨#[10]⟩ ++ catL a ++ catL b
    rw [catL_app a b]; simp only [ByteArray.append_assoc]
theorem foldW_eq : ∀ (ws : List ByteArray) (k : Nat) (line text : ByteArray), foldW ws k line text = text ++ catL (foldLs ws k line)
  | [], k, line, text => by
    show text ++ (line ++ ⟨#[10]⟩) = text ++ (line ++ ⟨#[10]⟩ ++ ⟨#[]⟩)
    rw [app_nil]
  | w :: r, k, line, text => by
    unfold foldW foldLs
    split
    · rw [foldW_eq]
      show _ = text ++ (line ++ ⟨#[10]⟩ ++ catL _)
      simp only [ByteArray.append_assoc]
    · rw [foldW_eq]
/-- Words with a space ahead of each. -/
def spR : List ByteArray → ByteArray
  | [] => ⟨#[]⟩
  | w :: r => ⟨#[32]⟩ ++ w ++ spR r
theorem spR_snoc : ∀ (c : List ByteArray) (w : ByteArray), spR (c ++ [w]) = spR c ++ (⟨#[32]⟩ ++ w)
  | [], w => by show ⟨#[32]⟩ ++ w ++ ⟨#[]⟩ = ⟨#[]⟩ ++ (⟨#[32]⟩ ++ w); rw [app_nil, nil_app]
  | x :: c, w => by
    show ⟨#[32]⟩ ++ x ++ spR (c ++ [w]) = ⟨#[32]⟩ ++ x ++ spR c ++ (⟨#[32]⟩ ++ w)
    rw [spR_snoc c w]; simp only [ByteArray.append_assoc]
/-- A word that may stand in a line. -/
def Gw (w : ByteArray) : Prop := 0 < w.size ∧ w.size ≤ 900 ∧ ∀ j, j < w.size → visB (at8 w j) = true
theorem vis_black {c : Int} (h : visB c = true) : blankB c = false := by
  cases hb : blankB c with
  | false => rfl
  | true =>
    exfalso
    unfold visB at h
    unfold blankB at hb
    simp only [Bool.and_eq_true, decide_eq_true_eq, Bool.or_eq_true, beq_iff_eq] at h hb
    omega
theorem vis_ok {c : Int} (h : visB c = true) : okB c = true := by unfold okB; rw [h]; rfl
theorem blank_32 : blankB 32 = true := by decide
theorem ok_10 : okB 10 = false := by decide
theorem okB_ne {c : Int} (h : okB c = true) : c ≠ 10 := fun e => by rw [e, ok_10] at h; cases h
theorem at8_mid {a b c : ByteArray} {j : Nat} (h : j < b.size) : at8 (a ++ b ++ c) (a.size + j) = at8 b j := by
  rw [at8_left (by rw [ByteArray.size_append]; omega), at8_right h]
theorem WF_sp : ∀ (cur : List ByteArray) (pre : ByteArray), (∀ w ∈ cur, Gw w) → WF (pre ++ spR cur) pre.size = cur
  | [], pre, _ => by
    show WF (pre ++ ⟨#[]⟩) pre.size = []
    rw [app_nil]; exact WF_end (Nat.le_refl _)
  | w :: r, pre, h => by
    obtain ⟨h1, h2, h3⟩ := h w List.mem_cons_self
    have es : pre ++ spR (w :: r) = pre ++ ⟨#[32]⟩ ++ w ++ spR r := by
      show pre ++ (⟨#[32]⟩ ++ w ++ spR r) = _
      simp only [ByteArray.append_assoc]
    have esz : (pre ++ ⟨#[32]⟩ : ByteArray).size = pre.size + 1 := by rw [ByteArray.size_append, size_one]
    have esz2 : (pre ++ ⟨#[32]⟩ ++ w : ByteArray).size = pre.size + 1 + w.size := by rw [ByteArray.size_append, esz]
    have ih := WF_sp r (pre ++ ⟨#[32]⟩ ++ w) (fun w hw => h w (List.mem_cons_of_mem _ hw))
    rw [es]
    rw [esz2] at ih
    have hsz : (pre ++ ⟨#[32]⟩ ++ w ++ spR r : ByteArray).size = pre.size + 1 + w.size + (spR r).size := by rw [ByteArray.size_append, esz2]
    have b0 : at8 (pre ++ ⟨#[32]⟩ ++ w ++ spR r) pre.size = 32 := by
      rw [at8_left (by rw [esz2]; omega), at8_left (by rw [esz]; omega)]
      have := at8_right (a := pre) (b := ⟨#[32]⟩) (j := 0) (by rw [size_one]; omega)
      rw [Nat.add_zero] at this
      rw [this, at8_one]; rfl
    have bw : ∀ j, pre.size + 1 ≤ j → j < pre.size + 1 + w.size → at8 (pre ++ ⟨#[32]⟩ ++ w ++ spR r) j = at8 w (j - (pre.size + 1)) := fun j j1 j2 => by
      have := at8_mid (a := pre ++ ⟨#[32]⟩) (b := w) (c := spR r) (j := j - (pre.size + 1)) (by omega)
      rw [esz, show pre.size + 1 + (j - (pre.size + 1)) = j by omega] at this
      exact this
    rw [WF_blank (by rw [hsz]; omega) (by rw [b0]; exact blank_32)]
    rw [WF_word (i := pre.size + 1 + w.size) (by omega) (by rw [hsz]; omega) (fun j j1 j2 => by rw [bw j j1 j2]; exact vis_black (h3 _ (by omega))) (fun hlt => ?_), ih]
    · congr 1
      have := ByteArray.extract_append_eq_left (a := pre ++ ⟨#[32]⟩ ++ w) (b := spR r) rfl
      apply ByteArray.ext_getElem
      · rw [ByteArray.size_extract, hsz]; omega
      · intro k hk hk'
        have e1 := bw (pre.size + 1 + k) (by omega) (by omega)
        rw [show pre.size + 1 + k - (pre.size + 1) = k by omega] at e1
        rw [at8_lt _ _ (by rw [hsz]; omega), at8_lt _ _ hk'] at e1
        rw [ByteArray.getElem_extract]
        exact UInt8.toNat_inj.1 (by omega)
    · have e1 := at8_right (a := pre ++ ⟨#[32]⟩ ++ w) (b := spR r) (j := 0) (by rw [hsz] at hlt; omega)
      rw [esz2, Nat.add_zero] at e1
      rw [e1]
      cases r with
      | nil => rw [hsz] at hlt; exfalso; have : (spR []).size = 0 := rfl; omega
      | cons x r =>
        have : at8 (spR (x :: r)) 0 = 32 := by
          show at8 (⟨#[32]⟩ ++ x ++ spR r) 0 = 32
          rw [at8_left (by rw [ByteArray.size_append, size_one]; omega), at8_left (by rw [size_one]; omega), at8_one]; rfl
        rw [this]; exact blank_32

end Go.Proofs.YtmlmdljnfokebaaGreatDoor

/- Chapter 49, plain: a printed header reads as its fields; where a printed message's header ends. No program in sight. -/
namespace Go.Proofs.YtmlmdljnfokebaaGreatDoor
open Go.RowKit

theorem app_all {P : Int → Prop} {a b : ByteArray} (ha : ∀ j, j < a.size → P (at8 a j)) (hb : ∀ j, j < b.size → P (at8 b j)) : ∀ j, j < (a ++ b).size → P (at8 (a ++ b) j) := fun j hj => by
  rw [ByteArray.size_append] at hj
  rcases Nat.lt_or_ge j a.size with h | h
  · rw [at8_left h]; exact ha j h
  · have := at8_right (a := a) (b := b) (j := j - a.size) (by omega)
    rw [show a.size + (j - a.size) = j by omega] at this
    rw [this]; exact hb _ (by omega)
theorem one_all {P : Int → Prop} {c : UInt8} (h : P (c.toNat : Int)) : ∀ j, j < (⟨#[c]⟩ : ByteArray).size → P (at8 ⟨#[c]⟩ j) := fun j hj => by
  rw [size_one] at hj
  obtain rfl : j = 0 := by omega
  rw [at8_one]; exact h
theorem nil_all {P : Int → Prop} : ∀ j, j < (⟨#[]⟩ : ByteArray).size → P (at8 ⟨#[]⟩ j) := fun _ hj => absurd hj (Nat.not_lt_zero _)
theorem spR_ok : ∀ (cur : List ByteArray), (∀ w ∈ cur, Gw w) → ∀ j, j < (spR cur).size → okB (at8 (spR cur) j) = true
  | [], _ => nil_all (P := fun c => okB c = true)
  | w :: r, h => app_all (P := fun c => okB c = true) (app_all (P := fun c => okB c = true) (one_all (P := fun c => okB c = true) (by decide)) (fun j hj => vis_ok ((h w List.mem_cons_self).2.2 j hj))) (spR_ok r fun w hw => h w (List.mem_cons_of_mem _ hw))
theorem skip_all {p : Int → Bool} {s : ByteArray} (h : ∀ j, j < s.size → p (at8 s j) = true) : skipN p s 0 = s.size :=
  (skipN_to p s (Nat.zero_le _)).uniq ⟨Nat.zero_le _, Nat.le_refl _, fun j _ hj => h j hj, fun h => by omega⟩
theorem lastB_snoc (out : List Fd) (x : Fd) : lastB (out ++ [x]) = x.2 := by
  unfold lastB
  rw [List.length_append, List.length_singleton, Nat.add_sub_cancel, List.getElem?_append_right (Nat.le_refl _), Nat.sub_self]; rfl
theorem setL_snoc (out : List Fd) (x : Fd) (b : ByteArray) : setL (out ++ [x]) b = out ++ [(x.1, b)] := by
  unfold setL
  rw [List.length_append, List.length_singleton, Nat.add_sub_cancel, List.getElem?_append_right (Nat.le_refl _), Nat.sub_self]
  simp
theorem addB_size (b w : ByteArray) : b.size ≤ (addB b w).size := by
  unfold addB
  split <;> simp only [ByteArray.size_append] <;> omega
theorem joinW_mono : ∀ (ws : List ByteArray) (b : ByteArray), b.size ≤ (joinW b ws).size
  | [], _ => Nat.le_refl _
  | w :: r, b => Nat.le_trans (addB_size b w) (joinW_mono r (addB b w))
theorem joinW_app (b : ByteArray) (c r : List ByteArray) : joinW b (c ++ r) = joinW (joinW b c) r := by unfold joinW; rw [List.foldl_append]
theorem line_cont {cur : List ByteArray} {out : List Fd} {nm b : ByteArray} (h0 : cur ≠ []) (hg : ∀ w ∈ cur, Gw w) (hs : (spR cur).size ≤ 998) (hb : (joinW b cur).size ≤ 8192) : lineP (spR cur) (out ++ [(nm, b)]) = .inr (out ++ [(nm, joinW b cur)]) := by
  have hw : WF (spR cur) 0 = cur := by have := WF_sp cur ⟨#[]⟩ hg; rw [nil_app] at this; exact this
  have hc : contB (spR cur) = true := by
    cases cur with
    | nil => exact absurd rfl h0
    | cons x r =>
      have h1 : 0 < (spR (x :: r)).size := by show 0 < (⟨#[32]⟩ ++ x ++ spR r : ByteArray).size; simp only [ByteArray.size_append, size_one]; omega
      have h2 : at8 (spR (x :: r)) 0 = 32 := by
        show at8 (⟨#[32]⟩ ++ x ++ spR r) 0 = 32
        rw [at8_left (by rw [ByteArray.size_append, size_one]; omega), at8_left (by rw [size_one]; omega), at8_one]; rfl
      unfold contB
      rw [decide_eq_true h1, h2]; rfl
  unfold lineP
  rw [if_neg (by omega), skip_all (spR_ok cur hg), if_neg (by omega), if_pos hc, if_neg (by simp)]
  unfold bodyP
  rw [bigP_none (by rw [hw]; exact fun w h => (hg w h).2.1), hw, lastB_snoc]
  simp only
  rw [if_neg (by omega), setL_snoc]
theorem name_vis {c : Int} (h : nameC c = true) : visB c = true ∧ c ≠ 58 := by
  unfold nameC letterB lowerB upperB digitB at h
  unfold visB
  simp only [Bool.or_eq_true, Bool.and_eq_true, decide_eq_true_eq, beq_iff_eq] at h ⊢
  omega
theorem letter_nb {c : Int} (h : letterB c = true) : blankB c = false := by
  refine vis_black ?_
  unfold letterB lowerB upperB at h
  unfold visB
  simp only [Bool.or_eq_true, Bool.and_eq_true, decide_eq_true_eq] at h ⊢
  omega
theorem nameB_parts {s : ByteArray} (h : nameB s = true) : 0 < s.size ∧ s.size ≤ 40 ∧ letterB (at8 s 0) = true ∧ ∀ j, j < s.size → nameC (at8 s j) = true := by
  unfold nameB at h
  simp only [Bool.and_eq_true, decide_eq_true_eq] at h
  exact ⟨h.1.1.1, h.1.1.2, h.1.2, all_at.1 h.2⟩
theorem line_first {cur : List ByteArray} {out : List Fd} {nm : ByteArray} (hn : nameB nm = true) (hg : ∀ w ∈ cur, Gw w) (hs : nm.size + 1 + (spR cur).size ≤ 998) (ho : out.length < 64) (hb : (joinW ⟨#[]⟩ cur).size ≤ 8192) : lineP (nm ++ ⟨#[58]⟩ ++ spR cur) out = .inr (out ++ [(nm, joinW ⟨#[]⟩ cur)]) := by
  obtain ⟨n1, n2, n3, n4⟩ := nameB_parts hn
  have hsz : (nm ++ ⟨#[58]⟩ ++ spR cur : ByteArray).size = nm.size + 1 + (spR cur).size := by simp only [ByteArray.size_append, size_one]
  have hok : ∀ j, j < (nm ++ ⟨#[58]⟩ ++ spR cur : ByteArray).size → okB (at8 (nm ++ ⟨#[58]⟩ ++ spR cur) j) = true :=
    app_all (P := fun c => okB c = true) (app_all (P := fun c => okB c = true) (fun j hj => vis_ok (name_vis (n4 j hj)).1) (one_all (P := fun c => okB c = true) (by decide))) (spR_ok cur hg)
  have h0 : at8 (nm ++ ⟨#[58]⟩ ++ spR cur) 0 = at8 nm 0 := by rw [at8_left (by simp only [ByteArray.size_append, size_one]; omega), at8_left n1]
  have hc : contB (nm ++ ⟨#[58]⟩ ++ spR cur) = false := by unfold contB; rw [h0, letter_nb n3, Bool.and_false]
  have hf : findC 58 (nm ++ ⟨#[58]⟩ ++ spR cur) = nm.size := (findC_first 58 _).uniq (first_app (c := 58) (a := nm) (rest := spR cur) (fun j hj => (name_vis (n4 j hj)).2))
  have hw : WF (nm ++ ⟨#[58]⟩ ++ spR cur) (nm.size + 1) = cur := by
    have := WF_sp cur (nm ++ ⟨#[58]⟩) hg
    rw [ByteArray.size_append, size_one] at this
    exact this
  unfold lineP
  rw [if_neg (by omega), skip_all hok, if_neg (by omega), if_neg (by rw [hc]; decide), hf, if_neg (by omega), app_head (c := 58), if_neg (by rw [hn]; decide), if_neg (by omega)]
  unfold bodyP
  rw [bigP_none (by rw [hw]; exact fun w h => (hg w h).2.1), hw, lastB_snoc]
  simp only
  rw [if_neg (by omega), setL_snoc]
def lnsP : List ByteArray → List Fd → Option (List Fd)
  | [], out => some out
  | l :: r, out => match lineP l out with
    | .inr o => lnsP r o
    | .inl _ => none
theorem lnsP_app : ∀ (a b : List ByteArray) (out o : List Fd), lnsP a out = some o → lnsP (a ++ b) out = lnsP b o
  | [], b, out, o, h => by cases h; rfl
  | l :: a, b, out, o, h => by
    have h : (match lineP l out with | .inr o => lnsP a o | .inl _ => none) = some o := h
    show (match lineP l out with | .inr o => lnsP (a ++ b) o | .inl _ => none) = lnsP b o
    cases hl : lineP l out with
    | inl x => rw [hl] at h; cases h
    | inr o' => rw [hl] at h; exact lnsP_app a b o' o h
theorem spR_one (w : ByteArray) : spR [w] = ⟨#[32]⟩ ++ w := by show ⟨#[32]⟩ ++ w ++ ⟨#[]⟩ = _; rw [app_nil]
theorem lns_cont (nm : ByteArray) (out : List Fd) : ∀ (r : List ByteArray) (k : Nat) (cur : List ByteArray) (b : ByteArray), 0 < k → cur ≠ [] → (∀ w ∈ cur, Gw w) → (∀ w ∈ r, Gw w) → (spR cur).size ≤ 942 → (joinW b (cur ++ r)).size ≤ 8192 → lnsP (foldLs r k (spR cur)) (out ++ [(nm, b)]) = some (out ++ [(nm, joinW b (cur ++ r))])
  | [], k, cur, b, hk, h0, hg, _, hs, hb => by
    rw [List.append_nil] at hb ⊢
    show lnsP [spR cur] _ = _
    unfold lnsP
    rw [line_cont h0 hg (by omega) hb]; rfl
  | w :: r, k, cur, b, hk, h0, hg, hr, hs, hb => by
    have hw := hr w List.mem_cons_self
    have hr' : ∀ w ∈ r, Gw w := fun w h => hr w (List.mem_cons_of_mem _ h)
    unfold foldLs
    split
    · have hb1 : (joinW b cur).size ≤ 8192 := by rw [joinW_app] at hb; exact Nat.le_trans (joinW_mono _ _) hb
      have e : joinW b (cur ++ w :: r) = joinW (joinW b cur) ([w] ++ r) := joinW_app b cur (w :: r)
      unfold lnsP
      rw [line_cont h0 hg (by omega) hb1]
      show lnsP (foldLs r (k + 1) (⟨#[32]⟩ ++ w)) _ = _
      rw [← spR_one, e]
      exact lns_cont nm out r (k + 1) [w] _ (by omega) (by simp) (fun u hu => by simp at hu; subst hu; exact hw) hr' (by rw [spR_one, ByteArray.size_append, size_one]; have := hw.2.1; omega) (by rw [← e]; exact hb)
    · rename_i hn
      rw [← spR_snoc]
      have e : cur ++ w :: r = (cur ++ [w]) ++ r := by simp
      rw [e] at hb ⊢
      refine lns_cont nm out r (k + 1) (cur ++ [w]) b (by omega) (by simp) (fun u hu => ?_) hr' ?_ hb
      · rcases List.mem_append.1 hu with hu | hu
        · exact hg u hu
        · simp at hu; subst hu; exact hw
      · rw [spR_snoc, ByteArray.size_append, ByteArray.size_append, size_one]
        have : ¬ 78 < (spR cur).size + 1 + w.size := fun h => hn ⟨hk, h⟩
        omega
theorem lns_first (nm : ByteArray) (out : List Fd) (hnm : nameB nm = true) (ho : out.length < 64) : ∀ (r : List ByteArray) (k : Nat) (cur : List ByteArray), (k = 0 → cur = []) → (∀ w ∈ cur, Gw w) → (∀ w ∈ r, Gw w) → nm.size + 1 + (spR cur).size ≤ 942 → (joinW ⟨#[]⟩ (cur ++ r)).size ≤ 8192 → lnsP (foldLs r k (nm ++ ⟨#[58]⟩ ++ spR cur)) out = some (out ++ [(nm, joinW ⟨#[]⟩ (cur ++ r))])
  | [], k, cur, hk, hg, _, hs, hb => by
    rw [List.append_nil] at hb ⊢
    show lnsP [nm ++ ⟨#[58]⟩ ++ spR cur] _ = _
    unfold lnsP
    rw [line_first hnm hg (by omega) ho hb]; rfl
  | w :: r, k, cur, hk, hg, hr, hs, hb => by
    have hw := hr w List.mem_cons_self
    have hr' : ∀ w ∈ r, Gw w := fun w h => hr w (List.mem_cons_of_mem _ h)
    have n2 := (nameB_parts hnm).2.1
    unfold foldLs
    split
    · have hb1 : (joinW ⟨#[]⟩ cur).size ≤ 8192 := by rw [joinW_app] at hb; exact Nat.le_trans (joinW_mono _ _) hb
      have e : joinW ⟨#[]⟩ (cur ++ w :: r) = joinW (joinW ⟨#[]⟩ cur) ([w] ++ r) := joinW_app _ cur (w :: r)
      unfold lnsP
      rw [line_first hnm hg (by omega) ho hb1]
      show lnsP (foldLs r (k + 1) (⟨#[32]⟩ ++ w)) _ = _
      rw [← spR_one, e]
      exact lns_cont nm out r (k + 1) [w] _ (by omega) (by simp) (fun u hu => by simp at hu; subst hu; exact hw) hr' (by rw [spR_one, ByteArray.size_append, size_one]; have := hw.2.1; omega) (by rw [← e]; exact hb)
    · rename_i hn
      have es : nm ++ ⟨#[58]⟩ ++ spR cur ++ (⟨#[32]⟩ ++ w) = nm ++ ⟨#[58]⟩ ++ spR (cur ++ [w]) := by rw [spR_snoc]; simp only [ByteArray.append_assoc]
      rw [es]
      have e : cur ++ w :: r = (cur ++ [w]) ++ r := by simp
      rw [e] at hb ⊢
      refine lns_first nm out hnm ho r (k + 1) (cur ++ [w]) (fun h => by omega) (fun u hu => ?_) hr' ?_ hb
      · rcases List.mem_append.1 hu with hu | hu
        · exact hg u hu
        · simp at hu; subst hu; exact hw
      · rw [spR_snoc, ByteArray.size_append, ByteArray.size_append, size_one]
        have := hw.2.1
        rcases Nat.eq_zero_or_pos k with h0 | h0
        · rw [hk h0]
          show nm.size + 1 + (0 + (1 + w.size)) ≤ 942
          omega
        · have : ¬ 78 < (nm ++ ⟨#[58]⟩ ++ spR cur : ByteArray).size + 1 + w.size := fun h => hn ⟨h0, h⟩
          simp only [ByteArray.size_append, size_one] at this
          omega
/-- The lines of a header. -/
def hdrL (l : List Fd) : List ByteArray := l.flatMap fun x => foldLs (words x.2) 0 (x.1 ++ ⟨#[58]⟩)
theorem words_mem (s : ByteArray) : ∀ (f i : Nat) (w : ByteArray), w ∈ wordsF s f i → ∃ a e, a < e ∧ e ≤ s.size ∧ w = s.extract a e ∧ ∀ j, a ≤ j → j < e → blankB (at8 s j) = false
  | 0, _, _, h => by cases h
  | f + 1, i, w, h => by
    unfold wordsF at h
    split at h
    · rename_i hi
      have a := skipN_to blankB s (i := i) (by omega)
      have b := skipN_to blackB s a.2.1
      split at h
      · rename_i h1
        rcases List.mem_cons.1 h with h | h
        · refine ⟨_, _, h1, b.2.1, h, fun j j1 j2 => ?_⟩
          have := b.2.2.1 j j1 j2
          unfold blackB at this
          simpa using this
        · exact words_mem s f _ w h
      · exact words_mem s f _ w h
    · cases h
theorem words_Gw {nm b : ByteArray} (h : fchk nm b = 0) : nameB nm = true ∧ (∀ w ∈ words b, Gw w) ∧ squeeze b = b ∧ b.size ≤ 8192 := by
  unfold fchk at h
  split at h
  · cases h
  rename_i h1
  split at h
  · cases h
  rename_i h2
  split at h
  · cases h
  rename_i h3
  split at h
  · cases h
  rename_i h4
  have hp : prtS b = true := by
    have := prt_neg (s := b)
    rw [decide_eq_false h2] at this
    simpa using this.symm
  have hp := all_at.1 hp
  refine ⟨by simpa using h1, fun w hw => ?_, Classical.byContradiction h3, by omega⟩
  obtain ⟨a, e, hae, he, rfl, hnb⟩ := words_mem b _ _ w hw
  refine ⟨by rw [ByteArray.size_extract]; omega, ?_, fun j hj => ?_⟩
  · have h5 : (words b).any (fun x => decide (900 < x.size)) = false := by
      have : ¬ (words b).any (fun x => decide (900 < x.size)) = true := fun h => h4 (.inr h)
      simpa using this
    have := List.any_eq_false.1 h5 _ hw
    simp at this; simp; omega
  · rw [ByteArray.size_extract] at hj
    rw [at8_extract b a e j (by omega) he]
    have h6 := hp (a + j) (by omega)
    have h7 := hnb (a + j) (by omega) (by omega)
    unfold prtB at h6
    unfold blankB at h7
    simp only [Bool.or_eq_true, beq_iff_eq] at h6
    rcases h6 with h6 | h6
    · exact h6
    · rw [h6] at h7; cases h7
theorem joinW_T : ∀ (ws : List ByteArray), (∀ w ∈ ws, 0 < w.size) → joinW ⟨#[]⟩ ws = joinT 32 ws
  | [], _ => rfl
  | x :: r, h => by
    have hx := h x List.mem_cons_self
    have key : ∀ (r : List ByteArray) (a : ByteArray), 0 < a.size → joinW a r = r.foldl (fun a y => a ++ ⟨#[32]⟩ ++ y) a := by
      intro r
      induction r with
      | nil => intro a _; rfl
      | cons y r ih =>
        intro a ha
        have e : addB a y = a ++ ⟨#[32]⟩ ++ y := by unfold addB; rw [if_neg (by omega)]
        show joinW (addB a y) r = _
        rw [e, ih _ (by simp only [ByteArray.size_append, size_one]; omega)]; rfl
    show joinW (addB ⟨#[]⟩ x) r = _
    have e : addB ⟨#[]⟩ x = x := by unfold addB; rw [if_pos (show (⟨#[]⟩ : ByteArray).size = 0 from rfl), nil_app]
    rw [e, key r x hx]; rfl
theorem lns_hdr : ∀ (l : List Fd) (out : List Fd), (∀ x ∈ l, fchk x.1 x.2 = 0) → out.length + l.length ≤ 64 → lnsP (hdrL l) out = some (out ++ l)
  | [], out, _, _ => by rw [List.append_nil]; rfl
  | x :: l, out, h, hl => by
    obtain ⟨h1, h2, h3, h4⟩ := words_Gw (h x List.mem_cons_self)
    have e : joinW ⟨#[]⟩ (words x.2) = x.2 := by rw [joinW_T _ (fun w hw => (h2 w hw).1)]; exact h3
    have hf := lns_first x.1 out h1 (by rw [List.length_cons] at hl; omega) (words x.2) 0 [] (fun _ => rfl) (fun w hw => by cases hw) h2 (by have := (nameB_parts h1).2.1; show x.1.size + 1 + 0 ≤ 942; omega) (by rw [List.nil_append, e]; exact h4)
    have es : x.1 ++ ⟨#[58]⟩ ++ spR [] = x.1 ++ ⟨#[58]⟩ := app_nil _
    rw [es, List.nil_append, e] at hf
    show lnsP (foldLs (words x.2) 0 (x.1 ++ ⟨#[58]⟩) ++ hdrL l) out = _
    rw [lnsP_app _ _ _ _ hf, lns_hdr l _ (fun y hy => h y (List.mem_cons_of_mem _ hy)) (by rw [List.length_append, List.length_singleton]; rw [List.length_cons] at hl; omega)]
    simp
theorem fpr_cat : ∀ (l : List Fd) (t : ByteArray), (∀ x ∈ l, fchk x.1 x.2 = 0) → fpr l t = if 65536 < (t ++ catL (hdrL l)).size then (⟨#[]⟩, 5) else (t ++ catL (hdrL l), 0)
  | [], t, _ => by
    have : t ++ catL (hdrL []) = t := app_nil t
    rw [this]; rfl
  | x :: l, t, h => by
    unfold fpr
    rw [if_neg (by rw [h x List.mem_cons_self]; decide), fpr_cat l _ (fun y hy => h y (List.mem_cons_of_mem _ hy))]
    have : t ++ foldT x.1 x.2 ++ catL (hdrL l) = t ++ catL (hdrL (x :: l)) := by
      show _ = t ++ catL (foldLs (words x.2) 0 (x.1 ++ ⟨#[58]⟩) ++ hdrL l)
      rw [catL_app]
      unfold foldT
      rw [foldW_eq, nil_app]; simp only [ByteArray.append_assoc]
    rw [this]

/-! ### Reading what was printed -/
theorem lineP_ok {l : ByteArray} {out o : List Fd} (h : lineP l out = .inr o) : 0 < l.size ∧ ∀ j, j < l.size → at8 l j ≠ 10 := by
  unfold lineP at h
  split at h
  · cases h
  split at h
  · cases h
  rename_i h1
  have hs := skipN_to okB l (i := 0) (Nat.zero_le _)
  have he : skipN okB l 0 = l.size := by have := hs.2.1; omega
  rw [he] at hs
  refine ⟨?_, fun j hj => okB_ne (hs.2.2.1 j (Nat.zero_le _) hj)⟩
  rcases Nat.eq_zero_or_pos l.size with h0 | h0
  · exfalso
    have hc : contB l = false := by unfold contB; rw [decide_eq_false (by omega)]; rfl
    have hf : findC 58 l = l.size := by have := (findC_first 58 l).2.1; omega
    rw [if_neg (by rw [hc]; decide), if_pos hf] at h
    cases h
  · exact h0
theorem nl_at {pre l rest : ByteArray} (h : ∀ j, j < l.size → at8 l j ≠ 10) : nlN (pre ++ (l ++ ⟨#[10]⟩ ++ rest)) pre.size = pre.size + l.size := by
  have hsz : (pre ++ (l ++ ⟨#[10]⟩ ++ rest) : ByteArray).size = pre.size + (l.size + 1 + rest.size) := by simp only [ByteArray.size_append, size_one]
  refine (skipN_to notNl _ (by rw [hsz]; omega)).uniq ⟨by omega, by rw [hsz]; omega, fun j j1 j2 => ?_, fun _ => ?_⟩
  · have := at8_right (a := pre) (b := l ++ ⟨#[10]⟩ ++ rest) (j := j - pre.size) (by simp only [ByteArray.size_append, size_one]; omega)
    rw [show pre.size + (j - pre.size) = j by omega] at this
    rw [this, at8_left (by simp only [ByteArray.size_append, size_one]; omega), at8_left (by omega)]
    have := h (j - pre.size) (by omega)
    unfold notNl
    simpa using this
  · rw [at8_right (by simp only [ByteArray.size_append, size_one]; omega), at8_left (by simp only [ByteArray.size_append, size_one]; omega)]
    have := at8_right (a := l) (b := ⟨#[10]⟩) (j := 0) (by rw [size_one]; omega)
    rw [Nat.add_zero] at this
    rw [this, at8_one]; rfl
theorem ext_mid {pre l rest : ByteArray} : (pre ++ (l ++ rest)).extract pre.size (pre.size + l.size) = l := by
  apply ByteArray.ext_getElem
  · simp only [ByteArray.size_extract, ByteArray.size_append]; omega
  · intro k hk hk'
    rw [ByteArray.getElem_extract, ByteArray.getElem_append_right (by omega)]
    rw [ByteArray.getElem_append_left (by omega)]
    simp
theorem prsR_cat : ∀ (ls : List ByteArray) (pre : ByteArray) (out o : List Fd), lnsP ls out = some o → prsR (pre ++ catL ls) pre.size out = (o, 0, 0)
  | [], pre, out, o, h => by
    cases h
    show prsR (pre ++ ⟨#[]⟩) pre.size out = _
    rw [app_nil]; exact prsR_end (Nat.le_refl _)
  | l :: r, pre, out, o, h => by
    unfold lnsP at h
    cases hl : lineP l out with
    | inl x => rw [hl] at h; cases h
    | inr o' =>
      rw [hl] at h
      obtain ⟨h1, h2⟩ := lineP_ok hl
      have ih := prsR_cat r (pre ++ l ++ ⟨#[10]⟩) o' o h
      have es : pre ++ catL (l :: r) = pre ++ (l ++ ⟨#[10]⟩ ++ catL r) := rfl
      have es2 : pre ++ l ++ ⟨#[10]⟩ ++ catL r = pre ++ (l ++ ⟨#[10]⟩ ++ catL r) := by simp only [ByteArray.append_assoc]
      have hsz : (pre ++ (l ++ ⟨#[10]⟩ ++ catL r) : ByteArray).size = pre.size + (l.size + 1 + (catL r).size) := by simp only [ByteArray.size_append, size_one]
      have hx : (pre ++ (l ++ ⟨#[10]⟩ ++ catL r)).extract pre.size (pre.size + l.size) = l := by rw [ByteArray.append_assoc]; exact ext_mid
      rw [es, prsR_step (by rw [hsz]; omega), nl_at h2, if_neg (by rw [hsz]; omega), hx, hl]
      rw [es2, ByteArray.size_append, ByteArray.size_append, size_one] at ih
      exact ih
/-- Two line feeds. -/
def NN (s : ByteArray) (i : Nat) : Prop := i + 1 < s.size ∧ at8 s i = 10 ∧ at8 s (i + 1) = 10
theorem lns_lines : ∀ (ls : List ByteArray) (out o : List Fd), lnsP ls out = some o → ∀ l ∈ ls, 0 < l.size ∧ ∀ j, j < l.size → at8 l j ≠ 10
  | [], _, _, _ => fun l h => by cases h
  | x :: r, out, o, h => by
    unfold lnsP at h
    cases hl : lineP x out with
    | inl y => rw [hl] at h; cases h
    | inr o' =>
      rw [hl] at h
      intro l hm
      rcases List.mem_cons.1 hm with rfl | hm
      · exact lineP_ok hl
      · exact lns_lines r o' o h l hm
theorem cat_nn : ∀ (ls : List ByteArray), (∀ l ∈ ls, 0 < l.size ∧ ∀ j, j < l.size → at8 l j ≠ 10) → (∀ i, ¬ NN (catL ls) i) ∧ (0 < (catL ls).size → at8 (catL ls) 0 ≠ 10 ∧ at8 (catL ls) ((catL ls).size - 1) = 10)
  | [], _ => ⟨fun i h => by have : i + 1 < 0 := h.1; omega, fun h => by have : 0 < 0 := h; omega⟩
  | l :: r, h => by
    obtain ⟨h1, h2⟩ := h l List.mem_cons_self
    obtain ⟨i1, i2⟩ := cat_nn r (fun x hx => h x (List.mem_cons_of_mem _ hx))
    have hsz : (catL (l :: r)).size = l.size + 1 + (catL r).size := by show (l ++ ⟨#[10]⟩ ++ catL r : ByteArray).size = _; simp only [ByteArray.size_append, size_one]
    have hlow : ∀ j, j < l.size → at8 (catL (l :: r)) j = at8 l j := fun j hj => by
      show at8 (l ++ ⟨#[10]⟩ ++ catL r) j = _
      rw [at8_left (by simp only [ByteArray.size_append, size_one]; omega), at8_left hj]
    have hmid : at8 (catL (l :: r)) l.size = 10 := by
      show at8 (l ++ ⟨#[10]⟩ ++ catL r) l.size = _
      have := at8_mid (a := l) (b := ⟨#[10]⟩) (c := catL r) (j := 0) (by rw [size_one]; omega)
      rw [Nat.add_zero] at this
      rw [this, at8_one]; rfl
    have hhi : ∀ j, j < (catL r).size → at8 (catL (l :: r)) (l.size + 1 + j) = at8 (catL r) j := fun j hj => by
      show at8 (l ++ ⟨#[10]⟩ ++ catL r) (l.size + 1 + j) = _
      have := at8_right (a := l ++ ⟨#[10]⟩) (b := catL r) (j := j) hj
      rw [ByteArray.size_append, size_one] at this
      exact this
    refine ⟨fun i hi => ?_, fun _ => ⟨by rw [hlow 0 h1]; exact h2 0 h1, ?_⟩⟩
    · obtain ⟨a, b, c⟩ := hi
      rw [hsz] at a
      rcases Nat.lt_trichotomy i l.size with hlt | heq | hgt
      · rw [hlow i hlt] at b; exact h2 i hlt b
      · subst heq
        have := hhi 0 (by omega)
        rw [Nat.add_zero] at this
        rw [this] at c
        exact (i2 (by omega)).1 c
      · have e1 := hhi (i - (l.size + 1)) (by omega)
        have e2 := hhi (i + 1 - (l.size + 1)) (by omega)
        rw [show l.size + 1 + (i - (l.size + 1)) = i by omega] at e1
        rw [show l.size + 1 + (i + 1 - (l.size + 1)) = i + 1 by omega] at e2
        rw [e1] at b
        rw [e2] at c
        exact i1 (i - (l.size + 1)) ⟨by omega, b, by rw [show i - (l.size + 1) + 1 = i + 1 - (l.size + 1) by omega]; exact c⟩
    · rw [hsz]
      rcases Nat.eq_zero_or_pos (catL r).size with h0 | h0
      · rw [h0, show l.size + 1 + 0 - 1 = l.size by omega]; exact hmid
      · have e1 := hhi ((catL r).size - 1) (by omega)
        rw [show l.size + 1 + (catL r).size - 1 = l.size + 1 + ((catL r).size - 1) by omega, e1]
        exact (i2 h0).2

end Go.Proofs.YtmlmdljnfokebaaGreatDoor
