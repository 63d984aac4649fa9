/- Chapter 49: the examples hold (known). The table of powers of ten reads as laid. -/
import Derived.Test.YtmlmdljnfokebaaGreatDoorZ10
import Derived.Test.YtmlmdljnfokebaaGreatDoorZ11
import Derived.Lib.ItoaMem
import Derived.Test.YtmlmdljnfokebaaGreatDoorProg
import Derived.Test.YtmlmdljnfokebaaGreatDoorZ02
import Derived.Test.YtmlmdljnfokebaaGreatDoorZ05
import Derived.Test.YtmlmdljnfokebaaGreatDoorZ04
import Derived.KernelRfl
import Derived.Test.YtmlmdljnfokebaaGreatDoorZ08
namespace Go.Proofs.YtmlmdljnfokebaaGreatDoor
open Go.RowKit Go.Maps

def km : Ml := ⟨⟨#[97, 110, 110]⟩, ⟨#[97]⟩, ⟨#[98, 111, 98]⟩, ⟨#[98]⟩, 7, 100, ⟨#[72, 105]⟩, [], ⟨#[120]⟩⟩
def kHd : List (ByteArray × ByteArray) := [(⟨#[70, 114, 111, 109]⟩, ⟨#[97, 110, 110, 64, 97]⟩), (⟨#[84, 111]⟩, ⟨#[98, 111, 98, 64, 98]⟩), (⟨#[78, 117, 109, 98, 101, 114]⟩, ⟨#[55]⟩), (⟨#[68, 97, 116, 101]⟩, ⟨#[49, 48, 48]⟩), (⟨#[72, 111, 112, 115]⟩, ⟨#[]⟩), (⟨#[83, 117, 98, 106, 101, 99, 116]⟩, ⟨#[72, 105]⟩)]
def kTx : ByteArray := ⟨#[70, 114, 111, 109, 58, 32, 97, 110, 110, 64, 97, 10, 84, 111, 58, 32, 98, 111, 98, 64, 98, 10, 78, 117, 109, 98, 101, 114, 58, 32, 55, 10, 68, 97, 116, 101, 58, 32, 49, 48, 48, 10, 72, 111, 112, 115, 58, 10, 83, 117, 98, 106, 101, 99, 116, 58, 32, 72, 105, 10]⟩
theorem d_one {n : Nat} (h : n < 10) : decI (n : Int) = ⟨#[UInt8.ofNat (48 + n)]⟩ := by unfold decI; rw [Lib.itoa_nonneg, Lib.decDigits_one h]
theorem d7 : decI 7 = ⟨#[55]⟩ := d_one (n := 7) (by decide)
theorem d8 : decI 8 = ⟨#[56]⟩ := d_one (n := 8) (by decide)
theorem d100 : decI 100 = ⟨#[49, 48, 48]⟩ := by
  show (⟨(Lib.itoa ((100 : Nat) : Int)).toArray⟩ : ByteArray) = _
  rw [Lib.itoa_nonneg, Lib.decDigits, dif_neg (by decide), Lib.decDigits_two (by decide) (by decide)]
  rfl
theorem k_chk : chkM km = 0 := by decide +kernel
theorem k_hd : hdM km = kHd := by
  unfold hdM
  rw [show km.n = 7 from rfl, show km.d = 100 from rfl, d7, d100]
  decide +kernel
theorem k_fpr : fpr kHd ⟨#[]⟩ = (kTx, 0) := by decide +kernel
def kAll : ByteArray := kTx ++ ⟨#[10]⟩ ++ ⟨#[120]⟩
theorem k_pr : prM km = (kAll, 0) := by
  unfold prM
  rw [k_chk, if_neg (by decide), k_hd, k_fpr, if_neg (by decide)]
  rfl
theorem k_site : siteE ⟨#[97]⟩ = 0 := by decide +kernel
def ky : Ml := ⟨⟨#[]⟩, ⟨#[97]⟩, ⟨#[97, 110, 110]⟩, ⟨#[97]⟩, 7, 50, ⟨#[78, 111, 116, 32, 100, 101, 108, 105, 118, 101, 114, 101, 100]⟩, [], ⟨#[98, 111, 98, 64, 98, 32, 56, 10, 72, 105, 10]⟩⟩
theorem k_bd : (km.tu ++ ⟨#[64]⟩ ++ km.ts ++ ⟨#[32]⟩ ++ ⟨#[56]⟩ ++ ⟨#[10]⟩ ++ km.sj ++ ⟨#[10]⟩ : ByteArray) = ⟨#[98, 111, 98, 64, 98, 32, 56, 10, 72, 105, 10]⟩ := by decide +kernel
theorem k_bnc : bncM km ⟨#[97]⟩ 8 50 = some ky := by
  unfold bncM
  rw [if_neg (by decide +kernel), if_neg (by rw [k_chk]; decide), if_neg (by rw [k_site]; decide), d8, k_bd]
  rfl
theorem FailP.more {w w' : World} {b mb : Nat} {site : ByteArray} {last : Int} {l : List (Int × Qd)} {a now code : Int} {e : Ending} (h : FailP w w' b mb site last l a now code false e) {x : Qd} (hx : aget l a = some x) (hm : minB now = true) (hf : x.f + 1 < 8) :
    e = .returned (.tuple #[.int .i64 0, .bool false, .int .i64 0]) ∧ QR w' b mb site last (aset l a ⟨x.m, x.p, x.c, x.f + 1, failD x now⟩) ∧ Kp (fun k => k = b ∨ k = mb) w w' := by
  rcases h with ⟨h, _⟩ | ⟨y, hy, h⟩
  · rw [hx] at h; cases h
  · rw [hx] at hy; cases hy
    rcases h with ⟨h, _⟩ | ⟨_, _, _, h⟩ | ⟨_, h, _⟩ | ⟨_, h, _⟩
    · rw [hm] at h; cases h
    · exact h
    · rcases h with h | h; cases h; omega
    · rcases h with h | h; cases h; omega
theorem FailP.last {w w' : World} {b mb : Nat} {site : ByteArray} {last : Int} {l : List (Int × Qd)} {a now code : Int} {e : Ending} (h : FailP w w' b mb site last l a now code true e) {x : Qd} {y : Ml} (hx : aget l a = some x) (hm : minB now = true) (hy : bncM x.m site code now = some y) :
    e = .returned (.tuple #[.int .i64 (last + 1), .bool true, .int .i64 0]) ∧ (∃ (p' : Option Addr) (c' : Nat), QR w' b mb site (last + 1) (aset (adel l a) (last + 1) ⟨y, p', c', 0, now⟩)) ∧ Kp (fun k => k = b ∨ k = mb) w w' := by
  rcases h with ⟨h, _⟩ | ⟨z, hz, h⟩
  · rw [hx] at h; cases h
  · rw [hx] at hz; cases hz
    rcases h with ⟨h, _⟩ | ⟨_, h, _⟩ | ⟨_, _, h, _⟩ | ⟨_, _, z, h, r⟩
    · rw [hm] at h; cases h
    · cases h
    · rw [hy] at h; cases h
    · rw [hy] at h; cases h; exact r
theorem kp_bm {b mb : Nat} {u v w : World} (h : Kp (fun k => k = b ∨ k = mb) u v) (k : K0 v w) : Kp (fun k => k = b ∨ k = mb) u w := h.trans (Kp.mono k (fun _ _ h => h.elim))
set_option maxRecDepth 100000 in
set_option maxHeartbeats 2000000 in
theorem known_any (w : World) (hT : GT w) : Calls Tryz.prog 13 #[] w fun e w' => e = .returned (.bool true) ∧ K0 w w' := by
  refine vc_lknown w _ (fun n W hW => ?_)
  have kW : K0 w W := hW.kk rfl
  have hnW := block_lt (hW.cells 0 rfl)
  simp only at hnW
  refine ⟨(mprint_any km none 0 W (fun k z hk => by simp [km] at hk) (Nat.le_refl _) (by decide +kernel) (by decide +kernel) (hT.k0 kW)).mono fun e w1 ⟨he, k1⟩ => ?_⟩
  rw [k_pr] at he
  refine ⟨_, _, he, .of_k0 k1, ⟨(newq_any ⟨#[97]⟩ w1).mono fun e w2 ⟨hq, k2⟩ => ?_⟩⟩
  rcases hq with ⟨h, _⟩ | ⟨_, b, mb, he, hQ2, gb, gm⟩
  · exact absurd k_site h
  have k02 := (kW.trans k1).trans k2
  have hnb : n ≠ b := by have := k1.size; omega
  have hnm : n ≠ mb := by have := k1.size; omega
  have gwb : w.heap.size ≤ b := by have := (kW.trans k1).size; omega
  have gwm : w.heap.size ≤ mb := by have := (kW.trans k1).size; omega
  have kept : ∀ (u v : World) (L : List Nat), (∀ x ∈ L, x ≠ b ∧ x ≠ mb) → Kp (fun k => k = b ∨ k = mb) u v → KeptL L u v := fun u v L hL hk => .of_kp hk (fun x hx e => by have := hL x hx; omega)
  refine ⟨_, _, he, .of_k0 k2, ⟨(qadd_any b mb ⟨#[97]⟩ 0 [] km none 0 10 w2 hQ2 (fun k z hk => by simp [km] at hk) (fun _ _ h => by cases h) (Nat.le_refl _) (by decide +kernel) (by decide +kernel) ⟨by decide, by decide⟩).mono fun e w3 hA => ?_⟩⟩
  rcases hA with ⟨_, h, _⟩ | ⟨_, _, _, he, ⟨p3, c3, hQ3⟩, k3⟩
  · exfalso
    rcases h with h | h | h
    · exact h k_chk
    · cases h
    · exact absurd h (by decide)
  have k03 : K0 w w3 := k02.fresh k3 (fun j hj e => by omega)
  refine ⟨_, _, he, kept _ _ _ (fun x hx => by simp at hx; subst hx; exact ⟨hnb, hnm⟩) k3, ?_⟩
  have g3 : aget (aset ([] : List (Int × Qd)) (0 + 1) ⟨km, p3, c3, 0, 10⟩) 1 = some ⟨km, p3, c3, 0, 10⟩ := rfl
  generalize aset ([] : List (Int × Qd)) (0 + 1) ⟨km, p3, c3, 0, 10⟩ = l3 at hQ3 g3
  refine ⟨(qfail_any b mb ⟨#[97]⟩ (0 + 1) l3 1 10 8 false w3 hQ3 ⟨by decide, by decide⟩ ⟨by decide, by decide⟩ ⟨by decide, by decide⟩ (hT.k0 k03)).mono fun e w4 hF => ?_⟩
  obtain ⟨he, hQ4, k4⟩ := hF.more g3 (by decide) (by show (0 : Int) + 1 < 8; decide)
  have k04 : K0 w w4 := k03.fresh k4 (fun j hj e => by omega)
  refine ⟨_, _, _, he, kept _ _ _ (fun x hx => by simp at hx; subst hx; exact ⟨hnb, hnm⟩) k4, ?_⟩
  have g4 : aget (aset l3 1 ⟨km, p3, c3, 0 + 1, failD ⟨km, p3, c3, 0, 10⟩ 10⟩) 1 = some ⟨km, p3, c3, 1, 15⟩ := by rw [aget_aset, if_pos rfl]; rfl
  have hQ4 : QR w4 b mb ⟨#[97]⟩ (0 + 1) (aset l3 1 ⟨km, p3, c3, 0 + 1, failD ⟨km, p3, c3, 0, 10⟩ 10⟩) := hQ4
  generalize aset l3 1 ⟨km, p3, c3, 0 + 1, failD ⟨km, p3, c3, 0, 10⟩ 10⟩ = l4 at hQ4 g4
  refine ⟨(qget_any b mb ⟨#[97]⟩ (0 + 1) l4 1 w4 hQ4 ⟨by decide, by decide⟩).mono fun e w5 ⟨⟨p5, c5, he, _, _⟩, k5⟩ => ?_⟩
  rw [g4] at he
  refine ⟨_, _, _, _, _, _, _, _, _, _, _, _, _, he, .of_k0 k5, fun n2 W6 hW6 => ?_⟩
  have k6 : K0 w5 W6 := hW6.kk rfl
  have k06 := (k04.trans k5).trans k6
  have hQ6 := (hQ4.k0 k5).k0 k6
  have hn2 : n2 ≠ b ∧ n2 ≠ mb := by have h1 : w5.heap.size ≤ n2 := hW6.fresh 0 rfl rfl; have := block_lt hQ4.blk; have := hQ4.map.lt; have := k5.size; omega
  refine ⟨(qfail_any b mb ⟨#[97]⟩ (0 + 1) l4 1 15 8 false W6 hQ6 ⟨by decide, by decide⟩ ⟨by decide, by decide⟩ ⟨by decide, by decide⟩ (hT.k0 k06)).mono fun e w7 hF => ?_⟩
  obtain ⟨he, hQ7, k7⟩ := hF.more g4 (by decide) (by show (1 : Int) + 1 < 8; decide)
  have k07 : K0 w w7 := k06.fresh k7 (fun j hj e => by omega)
  have hL2 : ∀ x ∈ [n2, n], x ≠ b ∧ x ≠ mb := fun x hx => by simp at hx; rcases hx with rfl | rfl; exact hn2; exact ⟨hnb, hnm⟩
  refine ⟨_, _, _, he, kept _ _ _ hL2 k7, ?_⟩
  have g7 : aget (aset l4 1 ⟨km, p3, c3, 1 + 1, failD ⟨km, p3, c3, 1, 15⟩ 15⟩) 1 = some ⟨km, p3, c3, 2, 25⟩ := by rw [aget_aset, if_pos rfl]; rfl
  have hQ7 : QR w7 b mb ⟨#[97]⟩ (0 + 1) (aset l4 1 ⟨km, p3, c3, 1 + 1, failD ⟨km, p3, c3, 1, 15⟩ 15⟩) := hQ7
  generalize aset l4 1 ⟨km, p3, c3, 1 + 1, failD ⟨km, p3, c3, 1, 15⟩ 15⟩ = l7 at hQ7 g7
  refine ⟨(qfail_any b mb ⟨#[97]⟩ (0 + 1) l7 1 25 8 false w7 hQ7 ⟨by decide, by decide⟩ ⟨by decide, by decide⟩ ⟨by decide, by decide⟩ (hT.k0 k07)).mono fun e w8 hF => ?_⟩
  obtain ⟨he, hQ8, k8⟩ := hF.more g7 (by decide) (by show (2 : Int) + 1 < 8; decide)
  have k08 : K0 w w8 := k07.fresh k8 (fun j hj e => by omega)
  refine ⟨_, _, _, he, kept _ _ _ hL2 k8, ?_⟩
  have g8 : aget (aset l7 1 ⟨km, p3, c3, 2 + 1, failD ⟨km, p3, c3, 2, 25⟩ 25⟩) 1 = some ⟨km, p3, c3, 3, 45⟩ := by rw [aget_aset, if_pos rfl]; rfl
  have hQ8 : QR w8 b mb ⟨#[97]⟩ (0 + 1) (aset l7 1 ⟨km, p3, c3, 2 + 1, failD ⟨km, p3, c3, 2, 25⟩ 25⟩) := hQ8
  generalize aset l7 1 ⟨km, p3, c3, 2 + 1, failD ⟨km, p3, c3, 2, 25⟩ 25⟩ = l8 at hQ8 g8
  refine ⟨(qget_any b mb ⟨#[97]⟩ (0 + 1) l8 1 w8 hQ8 ⟨by decide, by decide⟩).mono fun e w9 ⟨⟨p9, c9, he, _, _⟩, k9⟩ => ?_⟩
  rw [g8] at he
  refine ⟨_, _, _, _, _, _, _, _, _, _, _, _, _, he, .of_k0 k9, fun n4 Wa hWa => ?_⟩
  have ka : K0 w9 Wa := hWa.kk rfl
  have k0a := (k08.trans k9).trans ka
  have hQa := (hQ8.k0 k9).k0 ka
  have hn4 : n4 ≠ b ∧ n4 ≠ mb := by have h1 : w9.heap.size ≤ n4 := hWa.fresh 0 rfl rfl; have := block_lt hQ8.blk; have := hQ8.map.lt; have := k9.size; omega
  refine ⟨(qfail_any b mb ⟨#[97]⟩ (0 + 1) l8 1 50 8 true Wa hQa ⟨by decide, by decide⟩ ⟨by decide, by decide⟩ ⟨by decide, by decide⟩ (hT.k0 k0a)).mono fun e wb hF => ?_⟩
  obtain ⟨he, ⟨pb, cb, hQb⟩, kb⟩ := hF.last g8 (by decide) k_bnc
  have k0b : K0 w wb := k0a.fresh kb (fun j hj e => by omega)
  have hL4 : ∀ x ∈ [n4, n2, n], x ≠ b ∧ x ≠ mb := fun x hx => by simp at hx; rcases hx with rfl | rfl | rfl; exact hn4; exact hn2; exact ⟨hnb, hnm⟩
  refine ⟨_, _, _, he, kept _ _ _ hL4 kb, ?_⟩
  have gB : aget (aset (adel l8 1) (0 + 1 + 1) ⟨ky, pb, cb, 0, 50⟩) 2 = some ⟨ky, pb, cb, 0, 50⟩ := by rw [aget_aset, if_pos (by decide)]
  generalize aset (adel l8 1) (0 + 1 + 1) ⟨ky, pb, cb, 0, 50⟩ = lb at hQb gB
  refine ⟨(qget_any b mb ⟨#[97]⟩ (0 + 1 + 1) lb 2 wb hQb ⟨by decide, by decide⟩).mono fun e wc ⟨⟨pc, cc, he, _, _⟩, kc⟩ => ?_⟩
  rw [gB] at he
  refine ⟨_, _, _, _, _, _, _, _, _, _, _, _, _, he, .of_k0 kc, fun n6 => ?_⟩
  refine ⟨ky.bd, gimp_intro fun _ => fun Wd hWd => cell_at (hWd.cells 0 rfl) rfl, ky.fu, ky.fs, gimp_intro fun _ => fun Wd hWd => AtL_block (hWd.cells 0 rfl) rfl, fun Wd hWd => ?_⟩
  have kd : K0 wc Wd := hWd.kk rfl
  refine bsp_intro (fun _ => ?_) (fun h => ?_)
  · refine ⟨(mstr_any ky.fu ky.fs Wd (by decide +kernel) (by decide +kernel)).mono fun e we ⟨he, ke⟩ => ⟨_, he, .of_k0 ke, ?_⟩⟩
    refine ⟨ky.tu, ky.ts, gimp_intro fun _ => AtL_block (ke.blk (hWd.cells 0 rfl) (fun h => h)) rfl, km.fu, km.fs, gimp_intro fun _ => AtL_block (ke.blk (hWd.cells 3 rfl) (fun h => h)) rfl, _, gimp_intro fun _ => adEq _ _ _ _ (by decide +kernel) (by decide +kernel) (by decide +kernel) (by decide +kernel), ?_, ((k0b.trans kc).trans kd).trans ke⟩
    have : ∀ x : Bool, x = true → Ending.returned (.bool x) = .returned (.bool true) := fun x h => by rw [h]
    exact this _ (by kernel_rfl)
  · exfalso
    have h2 : true = false := Eq.trans (by kernel_rfl) h
    cases h2

end Go.Proofs.YtmlmdljnfokebaaGreatDoor

/- The formulas of functions by the symbolic evaluator, and that each gives the call's contract. Written by a program (gen.py). No condition. -/
namespace Go.Proofs.YtmlmdljnfokebaaGreatDoor
set_option maxRecDepth 100000
set_option linter.unusedVariables false

def VC_lto (fu : ByteArray) (fs : ByteArray) (tu : ByteArray) (ts : ByteArray) (n : Int) (d : Int) (sj : ByteArray) (hp : Option Addr) (hn : Nat) (hc : Nat) (bd : ByteArray) (w : World) (R : Ending → World → Prop) : Prop :=
 ∀ (n_1 n_2 : Nat) (W : World),
 Loc w.heap.size
 [Blk.mk n_2 26
 [Value.string (ByteArray.mk #[]), Value.string (ByteArray.mk #[]), Value.string (ByteArray.mk #[]),
 Value.string (ByteArray.mk #[]), Value.int IntKind.i64 0, Value.int IntKind.i64 0,
 Value.string (ByteArray.mk #[]), Value.slice none 0 0, Value.string (ByteArray.mk #[])]
 2,
 Blk.mk n_1 32
 [Value.string fu, Value.string fs, Value.string tu, Value.string ts, Value.int IntKind.i64 n,
 Value.int IntKind.i64 d, Value.string sj, Value.slice hp hn hc, Value.string bd]
 2]
 w W →
 ∃ (S : World → Prop),
 S W ∧
 ∃ (x : ByteArray),
 (∀ (w' : World), S w' → w'.cell? (Addr.mk n_1 0 none) = some (Value.string x)) ∧
 ∃ (x_1 : ByteArray),
 (∀ (w' : World), S w' → w'.cell? (Addr.mk n_1 (0 + 1) none) = some (Value.string x_1)) ∧
 ∃ (x_2 : ByteArray),
 (∀ (w' : World), S w' → w'.cell? (Addr.mk n_1 (0 + 2) none) = some (Value.string x_2)) ∧
 ∃ (x_3 : ByteArray),
 (∀ (w' : World), S w' → w'.cell? (Addr.mk n_1 (0 + 3) none) = some (Value.string x_3)) ∧
 ∃ (x_4 : Int),
 (∀ (w' : World), S w' → w'.cell? (Addr.mk n_1 (0 + 4) none) = some (Value.int IntKind.i64 x_4)) ∧
 ∃ (x_5 : Int),
 (∀ (w' : World), S w' → w'.cell? (Addr.mk n_1 (0 + 5) none) = some (Value.int IntKind.i64 x_5)) ∧
 ∃ (x_6 : ByteArray),
 (∀ (w' : World), S w' → w'.cell? (Addr.mk n_1 (0 + 6) none) = some (Value.string x_6)) ∧
 ∃ (x_7 : ByteArray),
 (∀ (w' : World), S w' → w'.cell? (Addr.mk n_1 (0 + 8) none) = some (Value.string x_7)) ∧
 ∃ (x_8 : ByteArray),
 (∀ (w' : World), S w' → w'.cell? (Addr.mk n_1 (0 + 8) none) = some (Value.string x_8)) ∧
 ((0 ≤ if 33000 < (↑x_8.size : Int) then 33000 else (↑x_8.size : Int)) ∧
 (if 33000 < (↑x_8.size : Int) then 33000 else (↑x_8.size : Int)) ≤ (↑x_7.size : Int)) ∧
 ∀ (n_3 : Nat) (w1 : World),
 NewB W
 (Obj.cells
 #[Value.string (ByteArray.mk #[]), Value.string (ByteArray.mk #[]),
 Value.string (ByteArray.mk #[]), Value.string (ByteArray.mk #[]), Value.int IntKind.i64 0,
 Value.int IntKind.i64 0, Value.string (ByteArray.mk #[]), Value.slice none 0 0,
 Value.string (ByteArray.mk #[])]
 26)
 n_3 w1 →
 S w1 ∧
 WrL w1 n_3 0 9 ∧
 ∀ (w1_1 : World),
 PutB w1 n_3 0
 [Value.string x, Value.string x_1, Value.string x_2, Value.string x_3,
 Value.int IntKind.i64 x_4, Value.int IntKind.i64 x_5, Value.string x_6,
 Value.slice none 0 0,
 Value.string
 (x_7.extract 0 (if 33000 < (↑x_8.size : Int) then 33000 else (↑x_8.size : Int)).toNat)]
 w1_1 →
 KeptL [n_2, n_1] W w1_1 ∧
 ∃ (I : List Value → World → Prop),
 ∃ (m : List Value → World → Nat),
 I [Value.int IntKind.i64 0] w1_1 ∧
 ∀ (x : Int) (w' : World),
 I [Value.int IntKind.i64 x] w' →
 Loc w.heap.size
 [Blk.mk n_2 26
 [Value.string (ByteArray.mk #[]), Value.string (ByteArray.mk #[]),
 Value.string (ByteArray.mk #[]), Value.string (ByteArray.mk #[]),
 Value.int IntKind.i64 0, Value.int IntKind.i64 0,
 Value.string (ByteArray.mk #[]), Value.slice none 0 0,
 Value.string (ByteArray.mk #[])]
 0,
 Blk.mk n_1 32
 [Value.string fu, Value.string fs, Value.string tu, Value.string ts,
 Value.int IntKind.i64 n, Value.int IntKind.i64 d, Value.string sj,
 Value.slice hp hn hc, Value.string bd]
 0]
 w' w' →
 bsp (decide (x < (↑hn : Int)) && decide (x < 20))
 (∀ (W : World),
 Loc w.heap.size
 [Blk.mk n_2 26
 [Value.string (ByteArray.mk #[]), Value.string (ByteArray.mk #[]),
 Value.string (ByteArray.mk #[]), Value.string (ByteArray.mk #[]),
 Value.int IntKind.i64 0, Value.int IntKind.i64 0,
 Value.string (ByteArray.mk #[]), Value.slice none 0 0,
 Value.string (ByteArray.mk #[])]
 0,
 Blk.mk n_1 32
 [Value.string fu, Value.string fs, Value.string tu, Value.string ts,
 Value.int IntKind.i64 n, Value.int IntKind.i64 d, Value.string sj,
 Value.slice hp hn hc, Value.string bd]
 0]
 w' W →
 ∃ (S : World → Prop),
 S W ∧
 ∃ (p : Option Addr),
 ∃ (n : Nat),
 ∃ (c : Nat),
 (∀ (w' : World),
 S w' → w'.cell? (Addr.mk n_3 (0 + 7) none) = some (Value.slice p n c)) ∧
 ∃ (p_1 : Option Addr),
 ∃ (n_4 : Nat),
 ∃ (c_1 : Nat),
 (∀ (w' : World),
 S w' →
 w'.cell? (Addr.mk n_1 (0 + 7) none) =
 some (Value.slice p_1 n_4 c_1)) ∧
 nn true p_1 fun (b o : Nat) =>
 (0 ≤ x ∧ x < (↑n_4 : Int)) ∧
 ∃ (x_9 : ByteArray),
 (∀ (w' : World),
 S w' →
 w'.cell? (Addr.mk b (o + x.toNat) none) =
 some (Value.string x_9)) ∧
 ∀ (n_5 : Nat) (w1 : World),
 NewB W (Obj.cells #[Value.string x_9] 9) n_5 w1 →
 S w1 ∧
 ∃ (base : Nat),
 ∃ (xs : List Value),
 ∃ (news : List Value),
 w1.ownsRow base 9 1 (Value.slice p n c) n xs ∧
 news.length = 1 ∧
 SrcP w1 (some (Addr.mk n_5 0 none)) news ∧
 n + 1 ≤ 9223372036854775807 ∧
 (n + 1) * 16 ≤ 140737488355328 ∧
 base ≤ w1.heap.size ∧
 ∀ (p' : Option Addr) (c' : Nat) (w'_1 : World),
 w'_1.ownsRow base 9 1 (Value.slice p' (n + 1) c')
 (n + 1) (xs ++ news) →
 w1.grownBy w'_1 (Value.slice p n c).ownBlock →
 (n + 1 ≤ c → p' = p ∧ c' = c) →
 ((∃ (u : Value),
 w'_1.cell? (Addr.mk n_3 (0 + 7) none) =
 some u) ∧
 w'_1.frozen? (Addr.mk n_3 (0 + 7) none) =
 false) ∧
 ∀ (w1 : World),
 PutB w'_1 n_3 (0 + 7) [Value.slice p' (n + 1) c']
 w1 →
 KeptL [n_2, n_1] W w1 ∧
 I
 [Value.int IntKind.i64
 (IntKind.i64.wrap (x + 1))]
 w1 ∧
 m
 [Value.int IntKind.i64
 (IntKind.i64.wrap (x + 1))]
 w1 <
 m [Value.int IntKind.i64 x] w')
 (∃ (x : ByteArray),
 ∃ (x_9 : ByteArray),
 ∃ (x_10 : ByteArray),
 ∃ (x_11 : ByteArray),
 ∃ (x_12 : Int),
 ∃ (x_13 : Int),
 ∃ (x_14 : ByteArray),
 ∃ (p : Option Addr),
 ∃ (n_4 : Nat),
 ∃ (c : Nat),
 ∃ (x_15 : ByteArray),
 AtL w' n_3 0
 [Value.string x, Value.string x_9, Value.string x_10,
 Value.string x_11, Value.int IntKind.i64 x_12,
 Value.int IntKind.i64 x_13, Value.string x_14, Value.slice p n_4 c,
 Value.string x_15] ∧
 ∀ (W : World),
 Loc w.heap.size
 [Blk.mk n_2 26
 [Value.string x, Value.string x_9, Value.string x_10,
 Value.string x_11, Value.int IntKind.i64 x_12,
 Value.int IntKind.i64 x_13, Value.string x_14,
 Value.slice p n_4 c, Value.string x_15]
 (wrM 0),
 Blk.mk n_1 32
 [Value.string fu, Value.string fs, Value.string tu,
 Value.string ts, Value.int IntKind.i64 n,
 Value.int IntKind.i64 d, Value.string sj, Value.slice hp hn hc,
 Value.string bd]
 0]
 w' W →
 R
 (Ending.returned
 (Value.agg
 #[Value.string x, Value.string x_9, Value.string x_10,
 Value.string x_11, Value.int IntKind.i64 x_12,
 Value.int IntKind.i64 x_13, Value.string x_14,
 Value.slice p n_4 c, Value.string x_15]))
 W)
theorem vc_lto (fu : ByteArray) (fs : ByteArray) (tu : ByteArray) (ts : ByteArray) (n : Int) (d : Int) (sj : ByteArray) (hp : Option Addr) (hn : Nat) (hc : Nat) (bd : ByteArray) (w : World) (R : Ending → World → Prop) (h : VC_lto fu fs tu ts n d sj hp hn hc bd w R) : Calls Tryz.prog 14 ([Value.agg
    #[Value.string fu, Value.string fs, Value.string tu, Value.string ts, Value.int IntKind.i64 n,
      Value.int IntKind.i64 d, Value.string sj, Value.slice hp hn hc, Value.string bd]] : List Value).toArray w R := by
  have e : execR2 { P := Tryz.prog, loops := [(3, [(4, Ck.int IntKind.i64)])], pur := purM, tails := [(1, 28), (5, 7)], joins := [], boxes := [] } Tryz.f14.results.toList R (Tryz.f14.body.getD .skip) (initF [Value.agg
    #[Value.string fu, Value.string fs, Value.string tu, Value.string ts, Value.int IntKind.i64 n,
      Value.int IntKind.i64 d, Value.string sj, Value.slice hp hn hc,
      Value.string
        bd]] (Tryz.f14.ntmps - ([Value.agg
    #[Value.string fu, Value.string fs, Value.string tu, Value.string ts, Value.int IntKind.i64 n,
      Value.int IntKind.i64 d, Value.string sj, Value.slice hp hn hc,
      Value.string bd]] : List Value).length)) w = VC_lto fu fs tu ts n d sj hp hn hc bd w R := by kernel_rfl
  have hb : Tryz.f14.body = some (Tryz.f14.body.getD .skip) := by kernel_rfl
  exact calls_of_exec2' (P := Tryz.prog) (fn := Tryz.f14) (c := Tryz.f14.body.getD .skip) (args := [Value.agg
    #[Value.string fu, Value.string fs, Value.string tu, Value.string ts, Value.int IntKind.i64 n,
      Value.int IntKind.i64 d, Value.string sj, Value.slice hp hn hc,
      Value.string bd]]) (w := w) (R := R) purM_ok Tryz.func14 hb e h

def VC_lof (fu : ByteArray) (fs : ByteArray) (tu : ByteArray) (ts : ByteArray) (n : Int) (d : Int) (sj : ByteArray) (hp : Option Addr) (hn : Nat) (hc : Nat) (bd : ByteArray) (w : World) (R : Ending → World → Prop) : Prop :=
 ∀ (n_1 n_2 n_3 : Nat) (W : World),
 Loc w.heap.size
 [Blk.mk n_3 32
 [Value.string fu, Value.string fs, Value.string tu, Value.string ts, Value.int IntKind.i64 n,
 Value.int IntKind.i64 d, Value.string sj, Value.slice none 0 0, Value.string bd]
 (wrM 2),
 Blk.mk n_2 32
 [Value.string (ByteArray.mk #[]), Value.string (ByteArray.mk #[]), Value.string (ByteArray.mk #[]),
 Value.string (ByteArray.mk #[]), Value.int IntKind.i64 0, Value.int IntKind.i64 0,
 Value.string (ByteArray.mk #[]), Value.slice none 0 0, Value.string (ByteArray.mk #[])]
 2,
 Blk.mk n_1 26
 [Value.string fu, Value.string fs, Value.string tu, Value.string ts, Value.int IntKind.i64 n,
 Value.int IntKind.i64 d, Value.string sj, Value.slice hp hn hc, Value.string bd]
 2]
 w W →
 ∃ (I : List Value → World → Prop),
 ∃ (m : List Value → World → Nat),
 I [Value.int IntKind.i64 0] W ∧
 ∀ (x : Int) (w' : World),
 I [Value.int IntKind.i64 x] w' →
 Loc w.heap.size
 [Blk.mk n_2 32
 [Value.string (ByteArray.mk #[]), Value.string (ByteArray.mk #[]), Value.string (ByteArray.mk #[]),
 Value.string (ByteArray.mk #[]), Value.int IntKind.i64 0, Value.int IntKind.i64 0,
 Value.string (ByteArray.mk #[]), Value.slice none 0 0, Value.string (ByteArray.mk #[])]
 0,
 Blk.mk n_1 26
 [Value.string fu, Value.string fs, Value.string tu, Value.string ts, Value.int IntKind.i64 n,
 Value.int IntKind.i64 d, Value.string sj, Value.slice hp hn hc, Value.string bd]
 0]
 w' w' →
 bsp (decide (x < (↑hn : Int)))
 (∀ (W : World),
 Loc w.heap.size
 [Blk.mk n_2 32
 [Value.string (ByteArray.mk #[]), Value.string (ByteArray.mk #[]), Value.string (ByteArray.mk #[]),
 Value.string (ByteArray.mk #[]), Value.int IntKind.i64 0, Value.int IntKind.i64 0,
 Value.string (ByteArray.mk #[]), Value.slice none 0 0, Value.string (ByteArray.mk #[])]
 0,
 Blk.mk n_1 26
 [Value.string fu, Value.string fs, Value.string tu, Value.string ts, Value.int IntKind.i64 n,
 Value.int IntKind.i64 d, Value.string sj, Value.slice hp hn hc, Value.string bd]
 0]
 w' W →
 ∃ (S : World → Prop),
 S W ∧
 ∃ (p : Option Addr),
 ∃ (n : Nat),
 ∃ (c : Nat),
 (∀ (w' : World), S w' → w'.cell? (Addr.mk n_3 (0 + 7) none) = some (Value.slice p n c)) ∧
 ∃ (p_1 : Option Addr),
 ∃ (n_4 : Nat),
 ∃ (c_1 : Nat),
 (∀ (w' : World), S w' → w'.cell? (Addr.mk n_1 (0 + 7) none) = some (Value.slice p_1 n_4 c_1)) ∧
 nn true p_1 fun (b o : Nat) =>
 (0 ≤ x ∧ x < (↑n_4 : Int)) ∧
 ∃ (x_1 : ByteArray),
 (∀ (w' : World), S w' → w'.cell? (Addr.mk b (o + x.toNat) none) = some (Value.string x_1)) ∧
 ∀ (n_5 : Nat) (w1 : World),
 NewB W (Obj.cells #[Value.string x_1] 9) n_5 w1 →
 S w1 ∧
 ∃ (base : Nat),
 ∃ (xs : List Value),
 ∃ (news : List Value),
 w1.ownsRow base 9 1 (Value.slice p n c) n xs ∧
 news.length = 1 ∧
 SrcP w1 (some (Addr.mk n_5 0 none)) news ∧
 n + 1 ≤ 9223372036854775807 ∧
 (n + 1) * 16 ≤ 140737488355328 ∧
 base ≤ w1.heap.size ∧
 ∀ (p' : Option Addr) (c' : Nat) (w'_1 : World),
 w'_1.ownsRow base 9 1 (Value.slice p' (n + 1) c') (n + 1) (xs ++ news) →
 w1.grownBy w'_1 (Value.slice p n c).ownBlock →
 (n + 1 ≤ c → p' = p ∧ c' = c) →
 ((∃ (u : Value), w'_1.cell? (Addr.mk n_3 (0 + 7) none) = some u) ∧
 w'_1.frozen? (Addr.mk n_3 (0 + 7) none) = false) ∧
 ∀ (w1 : World),
 PutB w'_1 n_3 (0 + 7) [Value.slice p' (n + 1) c'] w1 →
 KeptL [n_2, n_1] W w1 ∧
 I [Value.int IntKind.i64 (IntKind.i64.wrap (x + 1))] w1 ∧
 m [Value.int IntKind.i64 (IntKind.i64.wrap (x + 1))] w1 <
 m [Value.int IntKind.i64 x] w')
 (∃ (x : ByteArray),
 ∃ (x_1 : ByteArray),
 ∃ (x_2 : ByteArray),
 ∃ (x_3 : ByteArray),
 ∃ (x_4 : Int),
 ∃ (x_5 : Int),
 ∃ (x_6 : ByteArray),
 ∃ (p : Option Addr),
 ∃ (n_4 : Nat),
 ∃ (c : Nat),
 ∃ (x_7 : ByteArray),
 AtL w' n_3 0
 [Value.string x, Value.string x_1, Value.string x_2, Value.string x_3, Value.int IntKind.i64 x_4,
 Value.int IntKind.i64 x_5, Value.string x_6, Value.slice p n_4 c, Value.string x_7] ∧
 ∀ (W : World),
 Loc w.heap.size
 [Blk.mk n_2 32
 [Value.string x, Value.string x_1, Value.string x_2, Value.string x_3,
 Value.int IntKind.i64 x_4, Value.int IntKind.i64 x_5, Value.string x_6, Value.slice p n_4 c,
 Value.string x_7]
 (wrM 0),
 Blk.mk n_1 26
 [Value.string fu, Value.string fs, Value.string tu, Value.string ts, Value.int IntKind.i64 n,
 Value.int IntKind.i64 d, Value.string sj, Value.slice hp hn hc, Value.string bd]
 0]
 w' W →
 R
 (Ending.returned
 (Value.agg
 #[Value.string x, Value.string x_1, Value.string x_2, Value.string x_3,
 Value.int IntKind.i64 x_4, Value.int IntKind.i64 x_5, Value.string x_6, Value.slice p n_4 c,
 Value.string x_7]))
 W)
theorem vc_lof (fu : ByteArray) (fs : ByteArray) (tu : ByteArray) (ts : ByteArray) (n : Int) (d : Int) (sj : ByteArray) (hp : Option Addr) (hn : Nat) (hc : Nat) (bd : ByteArray) (w : World) (R : Ending → World → Prop) (h : VC_lof fu fs tu ts n d sj hp hn hc bd w R) : Calls Tryz.prog 11 ([Value.agg
    #[Value.string fu, Value.string fs, Value.string tu, Value.string ts, Value.int IntKind.i64 n,
      Value.int IntKind.i64 d, Value.string sj, Value.slice hp hn hc, Value.string bd]] : List Value).toArray w R := by
  have e : execR2 { P := Tryz.prog, loops := [(3, [(4, Ck.int IntKind.i64)])], pur := purM, tails := [(5, 7)], joins := [], boxes := [] } Tryz.f11.results.toList R (Tryz.f11.body.getD .skip) (initF [Value.agg
    #[Value.string fu, Value.string fs, Value.string tu, Value.string ts, Value.int IntKind.i64 n,
      Value.int IntKind.i64 d, Value.string sj, Value.slice hp hn hc,
      Value.string
        bd]] (Tryz.f11.ntmps - ([Value.agg
    #[Value.string fu, Value.string fs, Value.string tu, Value.string ts, Value.int IntKind.i64 n,
      Value.int IntKind.i64 d, Value.string sj, Value.slice hp hn hc,
      Value.string bd]] : List Value).length)) w = VC_lof fu fs tu ts n d sj hp hn hc bd w R := by kernel_rfl
  have hb : Tryz.f11.body = some (Tryz.f11.body.getD .skip) := by kernel_rfl
  exact calls_of_exec2' (P := Tryz.prog) (fn := Tryz.f11) (c := Tryz.f11.body.getD .skip) (args := [Value.agg
    #[Value.string fu, Value.string fs, Value.string tu, Value.string ts, Value.int IntKind.i64 n,
      Value.int IntKind.i64 d, Value.string sj, Value.slice hp hn hc,
      Value.string bd]]) (w := w) (R := R) purM_ok Tryz.func11 hb e h

end Go.Proofs.YtmlmdljnfokebaaGreatDoor

/- Chapter 49: the contracts of the statements' conversions To and Of. Lists have at most 2^40 strings. -/
namespace Go.Proofs.YtmlmdljnfokebaaGreatDoor
open Go.RowKit

set_option maxHeartbeats 1000000 in
theorem of_any (m : Ml) (p : Option Addr) (c : Nat) (w : World) (hR : StrP w p m.hops) (hhl : m.hops.length ≤ 1099511627776) :
    Calls Tryz.prog 11 #[mxA m p c] w fun e w' => (∃ (q : Option Addr) (d : Nat), e = .returned (mxA m q d) ∧ w'.ownsRow w.heap.size 9 1 (.slice q m.hops.length d) m.hops.length (m.hops.map .string)) ∧ K0 w w' := by
  refine vc_lof m.fu m.fs m.tu m.ts m.n m.d m.sj p m.hops.length c m.bd w _ (fun n1 n2 n3 W hW => ?_)
  have k0s : K0 w W := hW.kk rfl
  have hb3 : W.heap[n3]? = some (.cells #[.string m.fu, .string m.fs, .string m.tu, .string m.ts, .int .i64 m.n, .int .i64 m.d, .string m.sj, .slice none 0 0, .string m.bd] 32 (0, 0)) := hW.cells 0 rfl
  have g3 : w.heap.size ≤ n3 := hW.fresh 0 rfl rfl
  have hA : n3 ≠ n1 := hW.apart 0 2 rfl rfl (by decide)
  have hA2 : n3 ≠ n2 := hW.apart 0 1 rfl rfl (by decide)
  obtain ⟨B, hB, b1, b2, b3⟩ : ∃ B, B ≤ W.heap.size ∧ n1 < B ∧ n2 < B ∧ n3 < B := by
    have h1 := block_lt (hW.cells 2 rfl)
    have h2 := block_lt (hW.cells 1 rfl)
    have h3 := block_lt hb3
    exact ⟨W.heap.size, Nat.le_refl _, h1, h2, h3⟩
  refine ⟨fun vs w' => ∃ (i : Nat) (q : Option Addr) (d : Nat), vs = [.int .i64 (i : Int)] ∧ i ≤ m.hops.length ∧ w'.heap[n3]? = some (.cells #[.string m.fu, .string m.fs, .string m.tu, .string m.ts, .int .i64 m.n, .int .i64 m.d, .string m.sj, .slice q i d, .string m.bd] 32 (0, 0)) ∧ w'.ownsRow B 9 1 (.slice q i d) i ((m.hops.take i).map .string) ∧ K0 w w' ∧ B ≤ w'.heap.size,
    fun vs _ => (match vs with | .int _ x :: _ => m.hops.length - x.toNat | _ => 0), ⟨0, none, 0, rfl, by omega, hb3, World.ownsRow_nil _ _ _ _, k0s, hB⟩, ?_⟩
  rintro x w4 ⟨i, q, d, hv, hi, hb4, ho4, k4, hn4⟩ hL4
  simp only [List.cons.injEq, Value.int.injEq, true_and, and_true] at hv
  subst hv
  refine bsp_intro (fun hlt => ?_) (fun hge => ?_)
  · have hlt : i < m.hops.length := by simp at hlt; omega
    intro W5 hW5
    have k5 : K0 w4 W5 := hW5.kk rfl
    have hc1 : W5.heap[n1]? = some (.cells #[.string m.fu, .string m.fs, .string m.tu, .string m.ts, .int .i64 m.n, .int .i64 m.d, .string m.sj, .slice p m.hops.length c, .string m.bd] 26 (0, 0)) := hW5.cells 1 rfl
    have hb5 := k5.blk hb4 (fun h => h)
    obtain ⟨z, bz, oz, hz, hp, hcz⟩ := str_get (hR.k0 (k4.trans k5)) hlt
    refine ⟨fun wx => K0 W5 wx, .refl _ _, q, i, d, fun wx k => cell_at (k.blk hb5 (fun h => h)) rfl, p, m.hops.length, c, fun wx k => cell_at (k.blk hc1 (fun h => h)) rfl, nn_is hp ⟨⟨by omega, by omega⟩, z, fun wx k => by rw [Int.toNat_natCast]; exact k.cell' hcz (fun h => h), fun n5 w6 hn6 => ⟨hn6.kp _, ?_⟩⟩⟩
    have ho5 := owns_kp ho4 k5 (fun _ _ h => h)
    refine app1 ho5 (Nat.le_trans hn4 k5.size) hn6 rfl (by intro u hu; simp at hu; subst hu; rfl) (by omega) (by omega) (fun q' d' w7 ho7 hk7 hs7 => ?_)
    have k7 : Kp (fun k => B ≤ k) W5 w7 := hk7.mono fun k _ e => own_ge ho5 e
    have hb7 := k7.blk hb5 (by omega)
    refine ⟨cell_wr hb7 (by show 7 < 9; omega), fun w8 hp8 => ?_⟩
    have hb8 : w8.heap[n3]? = some (.cells #[.string m.fu, .string m.fs, .string m.tu, .string m.ts, .int .i64 m.n, .int .i64 m.d, .string m.sj, .slice q' (i + 1) d', .string m.bd] 32 (0, 0)) := by rw [hp8.block hb7]; rfl
    have k8 : Kp (fun k => k = n3 ∨ B ≤ k) W5 w8 := (k7.mono fun k _ e => .inr e).trans (hp8.kp.mono fun k _ e => .inl e)
    have k08 : K0 w w8 := (k4.trans k5).fresh k8 (fun j hj e => by omega)
    refine ⟨⟨by rw [hp8.size]; have := (hn6.kp (fun _ => False)).size; omega, fun y hy hlt' => k8.block y hlt' (fun e => by simp at hy; rcases hy with rfl | rfl; omega; omega)⟩, ⟨i + 1, q', d', by rw [inc64 (by omega)], by omega, hb8, ?_, k08, by rw [hp8.size]; have := k7.size; have := k5.size; omega⟩, by rw [inc64 (by omega)]; simp only [Int.toNat_natCast]; omega⟩
    rw [take_snoc hz, List.map_append]
    refine owns_kp ho7 hp8.kp (fun k hk e => ?_)
    have := own_ge ho7 hk
    have e : k = n3 := e
    omega
  · have hge : i = m.hops.length := by simp at hge; omega
    subst hge
    have hlen : (m.hops.take (m.hops.length)).length = m.hops.length := by rw [List.length_take]; omega
    refine ⟨_, _, _, _, _, _, _, _, _, _, _, AtL_block hb4 rfl, fun W5 hW5 => ⟨⟨q, d, ?_, ?_⟩, hW5.k0 k4⟩⟩
    · rfl
    · rw [List.take_length] at ho4
      refine owns_kp (own_base ho4 (by omega)) hW5.kp (fun k hk ⟨x, hx, h3, h4⟩ => ?_)
      have h1 := own_ge ho4 hk
      simp only [List.mem_cons, List.not_mem_nil, or_false] at hx
      rcases hx with rfl | rfl
      · have e : n2 = k := by first | exact h4 | exact h4.symm | exact h3 | exact h3.symm | exact h4.1 | exact h4.1.symm
        omega
      · have e : n1 = k := by first | exact h4 | exact h4.symm | exact h3 | exact h3.symm | exact h4.1 | exact h4.1.symm
        omega

def toM (m : Ml) : Ml := ⟨m.fu, m.fs, m.tu, m.ts, m.n, m.d, m.sj, m.hops.take 20, m.bd.extract 0 (min m.bd.size 33000)⟩
set_option maxHeartbeats 1000000 in
theorem to_any (m : Ml) (p : Option Addr) (c : Nat) (w : World) (hR : StrP w p m.hops) (hhl : m.hops.length ≤ 4611686018427387904) :
    Calls Tryz.prog 14 #[mxA m p c] w fun e w' => (∃ (q : Option Addr) (d : Nat), e = .returned (mxA (toM m) q d) ∧ w'.ownsRow w.heap.size 9 1 (.slice q (toM m).hops.length d) (toM m).hops.length ((toM m).hops.map .string)) ∧ K0 w w' := by
  refine vc_lto m.fu m.fs m.tu m.ts m.n m.d m.sj p m.hops.length c m.bd w _ (fun n1 n2 W hW => ?_)
  have kW : K0 w W := hW.kk rfl
  have hcW : W.heap[n1]? = some (.cells #[.string m.fu, .string m.fs, .string m.tu, .string m.ts, .int .i64 m.n, .int .i64 m.d, .string m.sj, .slice p m.hops.length c, .string m.bd] 32 (0, 0)) := hW.cells 1 rfl
  have hn1 := block_lt hcW
  have hn2 := block_lt (hW.cells 0 rfl)
  simp only at hn2
  have ck : ∀ (i : Nat) (v : Value), (#[.string m.fu, .string m.fs, .string m.tu, .string m.ts, .int .i64 m.n, .int .i64 m.d, .string m.sj, .slice p m.hops.length c, .string m.bd] : Array Value)[i]? = some v → ∀ wx, K0 W wx → wx.cell? ⟨n1, i, none⟩ = some v := fun i v h wx k => cell_at (k.blk hcW (fun h => h)) h
  have hbk : ∃ bk : Nat, (if 33000 < (m.bd.size : Int) then (33000 : Int) else (m.bd.size : Int)) = bk ∧ bk = min m.bd.size 33000 := by
    split
    · exact ⟨33000, rfl, by omega⟩
    · exact ⟨m.bd.size, rfl, by omega⟩
  obtain ⟨bk, ebk, hbk⟩ := hbk
  refine ⟨fun wx => K0 W wx, .refl _ _, m.fu, ck 0 _ rfl, m.fs, ck 1 _ rfl, m.tu, ck 2 _ rfl, m.ts, ck 3 _ rfl, m.n, ck 4 _ rfl, m.d, ck 5 _ rfl, m.sj, ck 6 _ rfl, m.bd, ck 8 _ rfl, m.bd, ck 8 _ rfl, ?_⟩
  rw [ebk, Int.toNat_natCast]
  refine ⟨⟨by omega, by omega⟩, fun n3 w2 hn3 => ⟨hn3.kp _, WrL_block hn3.block (Nat.le_refl 9), fun w3 hp3 => ?_⟩⟩
  have g30 : W.heap.size ≤ n3 := hn3.ge
  have hb3 : w3.heap[n3]? = some (.cells #[.string m.fu, .string m.fs, .string m.tu, .string m.ts, .int .i64 m.n, .int .i64 m.d, .string m.sj, .slice none 0 0, .string (m.bd.extract 0 bk)] 26 (0, 0)) := hp3.full hn3.block rfl
  have kW3 : K0 W w3 := put_k0 (hn3.kp _) hp3 g30
  have k0s : K0 w w3 := kW.trans kW3
  have g3 : w.heap.size ≤ n3 := Nat.le_trans kW.size g30
  have hA : n3 ≠ n1 := by omega
  have hA2 : n3 ≠ n2 := by omega
  obtain ⟨B, hB, b1, b2, b3⟩ : ∃ B, B ≤ w3.heap.size ∧ n1 < B ∧ n2 < B ∧ n3 < B := ⟨n3 + 1, block_lt hb3, by omega, by omega, by omega⟩
  refine ⟨.of_k0 kW3, ?_⟩
  refine ⟨fun vs w' => ∃ (i : Nat) (q : Option Addr) (d : Nat), vs = [.int .i64 (i : Int)] ∧ i ≤ m.hops.length ∧ i ≤ 20 ∧ w'.heap[n3]? = some (.cells #[.string m.fu, .string m.fs, .string m.tu, .string m.ts, .int .i64 m.n, .int .i64 m.d, .string m.sj, .slice q i d, .string (m.bd.extract 0 bk)] 26 (0, 0)) ∧ w'.ownsRow B 9 1 (.slice q i d) i ((m.hops.take i).map .string) ∧ K0 w w' ∧ B ≤ w'.heap.size,
    fun vs _ => (match vs with | .int _ x :: _ => m.hops.length - x.toNat | _ => 0), ⟨0, none, 0, rfl, by omega, by omega, hb3, World.ownsRow_nil _ _ _ _, k0s, hB⟩, ?_⟩
  rintro x w4 ⟨i, q, d, hv, hi, hi20, hb4, ho4, k4, hn4⟩ hL4
  simp only [List.cons.injEq, Value.int.injEq, true_and, and_true] at hv
  subst hv
  refine bsp_intro (fun hlt => ?_) (fun hge => ?_)
  · have hlt : i < m.hops.length ∧ i < 20 := by simp at hlt; omega
    intro W5 hW5
    have k5 : K0 w4 W5 := hW5.kk rfl
    have hc1 : W5.heap[n1]? = some (.cells #[.string m.fu, .string m.fs, .string m.tu, .string m.ts, .int .i64 m.n, .int .i64 m.d, .string m.sj, .slice p m.hops.length c, .string m.bd] 32 (0, 0)) := hW5.cells 1 rfl
    have hb5 := k5.blk hb4 (fun h => h)
    obtain ⟨z, bz, oz, hz, hp, hcz⟩ := str_get (hR.k0 (k4.trans k5)) hlt.1
    refine ⟨fun wx => K0 W5 wx, .refl _ _, q, i, d, fun wx k => cell_at (k.blk hb5 (fun h => h)) rfl, p, m.hops.length, c, fun wx k => cell_at (k.blk hc1 (fun h => h)) rfl, nn_is hp ⟨⟨by omega, by omega⟩, z, fun wx k => by rw [Int.toNat_natCast]; exact k.cell' hcz (fun h => h), fun n5 w6 hn6 => ⟨hn6.kp _, ?_⟩⟩⟩
    have ho5 := owns_kp ho4 k5 (fun _ _ h => h)
    refine app1 ho5 (Nat.le_trans hn4 k5.size) hn6 rfl (by intro u hu; simp at hu; subst hu; rfl) (by omega) (by omega) (fun q' d' w7 ho7 hk7 hs7 => ?_)
    have k7 : Kp (fun k => B ≤ k) W5 w7 := hk7.mono fun k _ e => own_ge ho5 e
    have hb7 := k7.blk hb5 (by omega)
    refine ⟨cell_wr hb7 (by show 7 < 9; omega), fun w8 hp8 => ?_⟩
    have hb8 : w8.heap[n3]? = some (.cells #[.string m.fu, .string m.fs, .string m.tu, .string m.ts, .int .i64 m.n, .int .i64 m.d, .string m.sj, .slice q' (i + 1) d', .string (m.bd.extract 0 bk)] 26 (0, 0)) := by rw [hp8.block hb7]; rfl
    have k8 : Kp (fun k => k = n3 ∨ B ≤ k) W5 w8 := (k7.mono fun k _ e => .inr e).trans (hp8.kp.mono fun k _ e => .inl e)
    have k08 : K0 w w8 := (k4.trans k5).fresh k8 (fun j hj e => by omega)
    refine ⟨⟨by rw [hp8.size]; have := (hn6.kp (fun _ => False)).size; omega, fun y hy hlt' => k8.block y hlt' (fun e => by simp at hy; rcases hy with rfl | rfl; omega; omega)⟩, ⟨i + 1, q', d', by rw [inc64 (by omega)], by omega, by omega, hb8, ?_, k08, by rw [hp8.size]; have := k7.size; have := k5.size; omega⟩, by rw [inc64 (by omega)]; simp only [Int.toNat_natCast]; omega⟩
    rw [take_snoc hz, List.map_append]
    refine owns_kp ho7 hp8.kp (fun k hk e => ?_)
    have := own_ge ho7 hk
    have e : k = n3 := e
    omega
  · have hge : i = min m.hops.length 20 := by simp at hge; omega
    subst hge
    have hlen : (m.hops.take (min m.hops.length 20)).length = min m.hops.length 20 := by rw [List.length_take]; omega
    refine ⟨_, _, _, _, _, _, _, _, _, _, _, AtL_block hb4 rfl, fun W5 hW5 => ⟨⟨q, d, ?_, ?_⟩, hW5.k0 k4⟩⟩
    · have e1 : m.hops.take 20 = m.hops.take (min m.hops.length 20) := by
        by_cases h : m.hops.length ≤ 20
        · rw [Nat.min_eq_left h, List.take_length, List.take_of_length_le h]
        · rw [Nat.min_eq_right (by omega)]
      unfold toM
      rw [← hbk, e1]
      show Ending.returned (Value.agg _) = .returned (.agg _)
      simp only [hlen]
    · have e1 : m.hops.take 20 = m.hops.take (min m.hops.length 20) := by
        by_cases h : m.hops.length ≤ 20
        · rw [Nat.min_eq_left h, List.take_length, List.take_of_length_le h]
        · rw [Nat.min_eq_right (by omega)]
      show W5.ownsRow _ _ _ (.slice q (m.hops.take 20).length d) (m.hops.take 20).length ((m.hops.take 20).map .string)
      rw [e1, hlen]
      refine owns_kp (own_base ho4 (by omega)) hW5.kp (fun k hk ⟨x, hx, h3, h4⟩ => ?_)
      have h1 := own_ge ho4 hk
      simp only [List.mem_cons, List.not_mem_nil, or_false] at hx
      rcases hx with rfl | rfl
      · have e : n2 = k := by first | exact h4 | exact h4.symm | exact h3 | exact h3.symm | exact h4.1 | exact h4.1.symm
        omega
      · have e : n1 = k := by first | exact h4 | exact h4.symm | exact h3 | exact h3.symm | exact h4.1 | exact h4.1.symm
        omega

end Go.Proofs.YtmlmdljnfokebaaGreatDoor

/- The formulas of functions by the symbolic evaluator, and that each gives the call's contract. Written by a program (gen.py). No condition. -/
namespace Go.Proofs.YtmlmdljnfokebaaGreatDoor
set_option maxRecDepth 100000
set_option linter.unusedVariables false

def VC_lretries (fu : ByteArray) (fs : ByteArray) (tu : ByteArray) (ts : ByteArray) (n : Int) (d : Int) (sj : ByteArray) (hp : Option Addr) (hn : Nat) (hc : Nat) (bd : ByteArray) (s : ByteArray) (now : Int) (w : World) (R : Ending → World → Prop) : Prop :=
 ∀ (n_1 : Nat) (W : World),
 Loc w.heap.size
 [Blk.mk n_1 32
 [Value.string fu, Value.string fs, Value.string tu, Value.string ts, Value.int IntKind.i64 n,
 Value.int IntKind.i64 d, Value.string sj, Value.slice hp hn hc, Value.string bd]
 2]
 w W →
 CallsS Tryz.prog 14
 #[Value.agg
 #[Value.string fu, Value.string fs, Value.string tu, Value.string ts, Value.int IntKind.i64 n,
 Value.int IntKind.i64 d, Value.string sj, Value.slice hp hn hc, Value.string bd]]
 W fun (e : Ending) (w' : World) =>
 ∃ (x : ByteArray),
 ∃ (x_1 : ByteArray),
 ∃ (x_2 : ByteArray),
 ∃ (x_3 : ByteArray),
 ∃ (x_4 : Int),
 ∃ (x_5 : Int),
 ∃ (x_6 : ByteArray),
 ∃ (p : Option Addr),
 ∃ (n_2 : Nat),
 ∃ (c : Nat),
 ∃ (x_7 : ByteArray),
 e =
 Ending.returned
 (Value.agg
 #[Value.string x, Value.string x_1, Value.string x_2, Value.string x_3, Value.int IntKind.i64 x_4,
 Value.int IntKind.i64 x_5, Value.string x_6, Value.slice p n_2 c, Value.string x_7]) ∧
 KeptL [n_1] W w' ∧
 ∀ (n_3 : Nat),
 ((0 ≤ if 60 < (↑s.size : Int) then 60 else (↑s.size : Int)) ∧
 (if 60 < (↑s.size : Int) then 60 else (↑s.size : Int)) ≤ (↑s.size : Int)) ∧
 ∀ (W : World),
 Loc w.heap.size
 [Blk.mk n_3 26
 [Value.string x, Value.string x_1, Value.string x_2, Value.string x_3, Value.int IntKind.i64 x_4,
 Value.int IntKind.i64 x_5, Value.string x_6, Value.slice p n_2 c, Value.string x_7]
 (wrM 2),
 Blk.mk n_1 32
 [Value.string fu, Value.string fs, Value.string tu, Value.string ts, Value.int IntKind.i64 n,
 Value.int IntKind.i64 d, Value.string sj, Value.slice hp hn hc, Value.string bd]
 0]
 w' W →
 CallsS Tryz.prog 17
 #[Value.string (s.extract 0 (if 60 < (↑s.size : Int) then 60 else (↑s.size : Int)).toNat)] W
 fun (e : Ending) (w' : World) =>
 ∃ (x_8 : Option Addr),
 ∃ (x_9 : Int),
 e = Ending.returned (Value.tuple #[Value.pointer x_8, Value.int IntKind.i64 x_9]) ∧
 KeptL [n_3, n_1] W w' ∧
 CallsS Tryz.prog 13 #[] w' fun (e : Ending) (w'_1 : World) =>
 ∃ (x_10 : Bool),
 e = Ending.returned (Value.bool x_10) ∧
 KeptL [n_3, n_1] w' w'_1 ∧
 bsp (!x_10 || x_9 != 0 || decide (now < 0) || decide (now > 100000000))
 (CallsS Tryz.prog 13 #[] w'_1 fun (e : Ending) (w' : World) =>
 ∃ (x : Bool),
 e = Ending.returned (Value.bool x) ∧
 KeptL [n_3, n_1] w'_1 w' ∧ R (Ending.returned (Value.bool x)) w')
 (CallsS Tryz.prog 18
 #[Value.pointer x_8,
 Value.agg
 #[Value.string x, Value.string x_1, Value.string x_2, Value.string x_3,
 Value.int IntKind.i64 x_4, Value.int IntKind.i64 x_5, Value.string x_6,
 Value.slice p n_2 c, Value.string x_7],
 Value.int IntKind.i64 now]
 w'_1 fun (e : Ending) (w' : World) =>
 ∃ (x_11 : Int),
 ∃ (x_12 : Int),
 e =
 Ending.returned
 (Value.tuple #[Value.int IntKind.i64 x_11, Value.int IntKind.i64 x_12]) ∧
 KeptL [n_3, n_1] w'_1 w' ∧
 bsp (x_12 != 0)
 (bsp (x_11 == 0)
 (CallsS Tryz.prog 19 #[Value.pointer x_8] w' fun (e : Ending) (w'_2 : World) =>
 ∃ (x : Int),
 e = Ending.returned (Value.int IntKind.i64 x) ∧
 KeptL [n_3, n_1] w' w'_2 ∧
 R (Ending.returned (Value.bool (true && x == 0))) w'_2)
 (KeptL [n_3, n_1] w' w' ∧ R (Ending.returned (Value.bool false)) w'))
 (∃ (I : List Value → World → Prop),
 ∃ (m : List Value → World → Nat),
 I [Value.int IntKind.i64 1, Value.int IntKind.i64 5, Value.int IntKind.i64 now]
 w' ∧
 ∀ (x_13 x_14 x_15 : Int) (w' : World),
 I
 [Value.int IntKind.i64 x_13, Value.int IntKind.i64 x_14,
 Value.int IntKind.i64 x_15]
 w' →
 Loc w.heap.size
 [Blk.mk n_3 26
 [Value.string x, Value.string x_1, Value.string x_2, Value.string x_3,
 Value.int IntKind.i64 x_4, Value.int IntKind.i64 x_5, Value.string x_6,
 Value.slice p n_2 c, Value.string x_7]
 0,
 Blk.mk n_1 32
 [Value.string fu, Value.string fs, Value.string tu, Value.string ts,
 Value.int IntKind.i64 n, Value.int IntKind.i64 d, Value.string sj,
 Value.slice hp hn hc, Value.string bd]
 0]
 w' w' →
 bsp (decide (x_13 ≤ 8))
 (CallsS Tryz.prog 20
 #[Value.pointer x_8, Value.int IntKind.i64 x_11, Value.int IntKind.i64 x_15,
 Value.int IntKind.i64 26, Value.bool false]
 w' fun (e : Ending) (w'_2 : World) =>
 ∃ (x_16 : Int),
 ∃ (x_17 : Bool),
 ∃ (x_18 : Int),
 e =
 Ending.returned
 (Value.tuple
 #[Value.int IntKind.i64 x_16, Value.bool x_17,
 Value.int IntKind.i64 x_18]) ∧
 KeptL [n_3, n_1] w' w'_2 ∧
 bsp (x_18 != 0) (R (Ending.returned (Value.bool false)) w'_2)
 (CallsS Tryz.prog 21 #[Value.pointer x_8, Value.int IntKind.i64 x_11]
 w'_2 fun (e : Ending) (w'_3 : World) =>
 ∃ (x_19 : ByteArray),
 ∃ (x_20 : ByteArray),
 ∃ (x_21 : ByteArray),
 ∃ (x_22 : ByteArray),
 ∃ (x_23 : Int),
 ∃ (x_24 : Int),
 ∃ (x_25 : ByteArray),
 ∃ (p_1 : Option Addr),
 ∃ (n_4 : Nat),
 ∃ (c_1 : Nat),
 ∃ (x_26 : ByteArray),
 ∃ (x_27 : Int),
 ∃ (x_28 : Bool),
 e =
 Ending.returned
 (Value.tuple
 #[Value.agg
 #[Value.string x_19, Value.string x_20,
 Value.string x_21, Value.string x_22,
 Value.int IntKind.i64 x_23,
 Value.int IntKind.i64 x_24, Value.string x_25,
 Value.slice p_1 n_4 c_1, Value.string x_26],
 Value.int IntKind.i64 x_27, Value.bool x_28]) ∧
 KeptL [n_3, n_1] w'_2 w'_3 ∧
 ∀ (n_5 : Nat),
 bsp (x_13 == 8)
 (∃ (x_29 : ByteArray),
 gimp (!x_28)
 (∀ (W : World),
 Loc w.heap.size
 [Blk.mk n_3 26
 [Value.string x, Value.string x_1,
 Value.string x_2, Value.string x_3,
 Value.int IntKind.i64 x_4,
 Value.int IntKind.i64 x_5,
 Value.string x_6, Value.slice p n_2 c,
 Value.string x_7]
 0,
 Blk.mk n_1 32
 [Value.string fu, Value.string fs,
 Value.string tu, Value.string ts,
 Value.int IntKind.i64 n,
 Value.int IntKind.i64 d, Value.string sj,
 Value.slice hp hn hc, Value.string bd]
 0,
 Blk.mk n_5 26
 [Value.string x_19, Value.string x_20,
 Value.string x_21, Value.string x_22,
 Value.int IntKind.i64 x_23,
 Value.int IntKind.i64 x_24,
 Value.string x_25, Value.slice p_1 n_4 c_1,
 Value.string x_26]
 (wrM 2)]
 w'_3 W →
 W.cell? (Addr.mk n_3 0 none) =
 some (Value.string x_29)) ∧
 ∀ (W : World),
 Loc w.heap.size
 [Blk.mk n_3 26
 [Value.string x, Value.string x_1,
 Value.string x_2, Value.string x_3,
 Value.int IntKind.i64 x_4,
 Value.int IntKind.i64 x_5, Value.string x_6,
 Value.slice p n_2 c, Value.string x_7]
 0,
 Blk.mk n_1 32
 [Value.string fu, Value.string fs,
 Value.string tu, Value.string ts,
 Value.int IntKind.i64 n,
 Value.int IntKind.i64 d, Value.string sj,
 Value.slice hp hn hc, Value.string bd]
 0,
 Blk.mk n_5 26
 [Value.string x_19, Value.string x_20,
 Value.string x_21, Value.string x_22,
 Value.int IntKind.i64 x_23,
 Value.int IntKind.i64 x_24,
 Value.string x_25, Value.slice p_1 n_4 c_1,
 Value.string x_26]
 (wrM 2)]
 w'_3 W →
 bsp (!x_28 && x_17 == !x_29.toList == [])
 (bsp
 (x_17 && x_16 == IntKind.i64.wrap (x_11 + 1))
 (CallsS Tryz.prog 19 #[Value.pointer x_8] W
 fun (e : Ending) (w' : World) =>
 ∃ (x : Int),
 e =
 Ending.returned
 (Value.int IntKind.i64 x) ∧
 KeptL [n_3, n_1, n_5] W w' ∧
 bsp (!(true && x == 1))
 (bsp (!x_17 && x_16 == 0)
 (CallsS Tryz.prog 19
 #[Value.pointer x_8] w'
 fun (e : Ending) (w'_4 : World) =>
 ∃ (x : Int),
 e =
 Ending.returned
 (Value.int IntKind.i64 x) ∧
 KeptL [n_3, n_1, n_5] w' w'_4 ∧
 R
 (Ending.returned
 (Value.bool
 (true &&
 (false || true && x == 0))))
 w'_4)
 (KeptL [n_3, n_1, n_5] w' w' ∧
 R
 (Ending.returned
 (Value.bool
 (true && (false || false))))
 w'))
 (KeptL [n_3, n_1, n_5] w' w' ∧
 R
 (Ending.returned
 (Value.bool (true && true)))
 w'))
 (KeptL [n_3, n_1, n_5] W W ∧
 bsp (!x_17 && x_16 == 0)
 (CallsS Tryz.prog 19 #[Value.pointer x_8] W
 fun (e : Ending) (w' : World) =>
 ∃ (x : Int),
 e =
 Ending.returned
 (Value.int IntKind.i64 x) ∧
 KeptL [n_3, n_1, n_5] W w' ∧
 R
 (Ending.returned
 (Value.bool
 (true && (false || true && x == 0))))
 w')
 (KeptL [n_3, n_1, n_5] W W ∧
 R
 (Ending.returned
 (Value.bool (true && (false || false))))
 W)))
 (KeptL [n_3, n_1, n_5] W W ∧
 KeptL [n_3, n_1, n_5] W W ∧
 R (Ending.returned (Value.bool false)) W))
 (∀ (W : World),
 Loc w.heap.size
 [Blk.mk n_3 26
 [Value.string x, Value.string x_1,
 Value.string x_2, Value.string x_3,
 Value.int IntKind.i64 x_4,
 Value.int IntKind.i64 x_5, Value.string x_6,
 Value.slice p n_2 c, Value.string x_7]
 0,
 Blk.mk n_1 32
 [Value.string fu, Value.string fs,
 Value.string tu, Value.string ts,
 Value.int IntKind.i64 n,
 Value.int IntKind.i64 d, Value.string sj,
 Value.slice hp hn hc, Value.string bd]
 0,
 Blk.mk n_5 26
 [Value.string x_19, Value.string x_20,
 Value.string x_21, Value.string x_22,
 Value.int IntKind.i64 x_23,
 Value.int IntKind.i64 x_24, Value.string x_25,
 Value.slice p_1 n_4 c_1, Value.string x_26]
 (wrM 2)]
 w'_3 W →
 bsp
 (!(x_17 || !x_28 ||
 x_27 != IntKind.i64.wrap (x_15 + x_14)))
 (CallsS Tryz.prog 22
 #[Value.pointer x_8,
 Value.int IntKind.i64
 (IntKind.i64.wrap (x_27 - 1))]
 W fun (e : Ending) (w'_4 : World) =>
 ∃ (p : Option Addr),
 ∃ (n : Nat),
 ∃ (c : Nat),
 e = Ending.returned (Value.slice p n c) ∧
 KeptL [n_3, n_1, n_5] W w'_4 ∧
 bsp (!(false || (↑n : Int) != 0))
 (CallsS Tryz.prog 22
 #[Value.pointer x_8,
 Value.int IntKind.i64 x_27]
 w'_4 fun (e : Ending) (w'_5 : World) =>
 ∃ (p : Option Addr),
 ∃ (n : Nat),
 ∃ (c : Nat),
 e =
 Ending.returned
 (Value.slice p n c) ∧
 KeptL [n_3, n_1, n_5] w'_4 w'_5 ∧
 bsp (false || (↑n : Int) != 1)
 (R
 (Ending.returned
 (Value.bool false))
 w'_5)
 (I
 [Value.int IntKind.i64
 (IntKind.i64.wrap (x_13 + 1)),
 Value.int IntKind.i64
 (IntKind.i64.wrap (2 * x_14)),
 Value.int IntKind.i64 x_27]
 w'_5 ∧
 m
 [Value.int IntKind.i64
 (IntKind.i64.wrap (x_13 + 1)),
 Value.int IntKind.i64
 (IntKind.i64.wrap (2 * x_14)),
 Value.int IntKind.i64 x_27]
 w'_5 <
 m
 [Value.int IntKind.i64 x_13,
 Value.int IntKind.i64 x_14,
 Value.int IntKind.i64 x_15]
 w'))
 (KeptL [n_3, n_1, n_5] w'_4 w'_4 ∧
 R (Ending.returned (Value.bool false))
 w'_4))
 (KeptL [n_3, n_1, n_5] W W ∧
 KeptL [n_3, n_1, n_5] W W ∧
 R (Ending.returned (Value.bool false)) W))))
 (R (Ending.returned (Value.bool false)) w')))
theorem vc_lretries (fu : ByteArray) (fs : ByteArray) (tu : ByteArray) (ts : ByteArray) (n : Int) (d : Int) (sj : ByteArray) (hp : Option Addr) (hn : Nat) (hc : Nat) (bd : ByteArray) (s : ByteArray) (now : Int) (w : World) (R : Ending → World → Prop) (h : VC_lretries fu fs tu ts n d sj hp hn hc bd s now w R) : Calls Tryz.prog 5 ([Value.agg
    #[Value.string fu, Value.string fs, Value.string tu, Value.string ts, Value.int IntKind.i64 n,
      Value.int IntKind.i64 d, Value.string sj, Value.slice hp hn hc, Value.string bd],
  Value.string s, Value.int IntKind.i64 now] : List Value).toArray w R := by
  have e : execR2 { P := Tryz.prog, loops := [(10, [(13, Ck.int IntKind.i64), (12, Ck.int IntKind.i64), (2, Ck.int IntKind.i64)])], pur := purM, tails := [], joins := [], boxes := [] } Tryz.f5.results.toList R (Tryz.f5.body.getD .skip) (initF [Value.agg
    #[Value.string fu, Value.string fs, Value.string tu, Value.string ts, Value.int IntKind.i64 n,
      Value.int IntKind.i64 d, Value.string sj, Value.slice hp hn hc, Value.string bd],
  Value.string s,
  Value.int IntKind.i64
    now] (Tryz.f5.ntmps - ([Value.agg
    #[Value.string fu, Value.string fs, Value.string tu, Value.string ts, Value.int IntKind.i64 n,
      Value.int IntKind.i64 d, Value.string sj, Value.slice hp hn hc, Value.string bd],
  Value.string s,
  Value.int IntKind.i64
    now] : List Value).length)) w = VC_lretries fu fs tu ts n d sj hp hn hc bd s now w R := by kernel_rfl
  have hb : Tryz.f5.body = some (Tryz.f5.body.getD .skip) := by kernel_rfl
  exact calls_of_exec2' (P := Tryz.prog) (fn := Tryz.f5) (c := Tryz.f5.body.getD .skip) (args := [Value.agg
    #[Value.string fu, Value.string fs, Value.string tu, Value.string ts, Value.int IntKind.i64 n,
      Value.int IntKind.i64 d, Value.string sj, Value.slice hp hn hc, Value.string bd],
  Value.string s, Value.int IntKind.i64 now]) (w := w) (R := R) purM_ok Tryz.func5 hb e h

def VC_lsound (s : ByteArray) (w : World) (R : Ending → World → Prop) : Prop :=
 (9223372036854775807 - (↑((ByteArray.mk #[64]).size + s.size) : Int)).NonNeg ∧
 CallsS Tryz.prog 35 #[Value.string (ByteArray.mk #[64] ++ s)] w fun (e : Ending) (w' : World) =>
 ∃ (x : ByteArray),
 ∃ (x_1 : ByteArray),
 ∃ (x_2 : Int),
 e = Ending.returned (Value.tuple #[Value.agg #[Value.string x, Value.string x_1], Value.int IntKind.i64 x_2]) ∧
 KeptL [] w w' ∧
 ∀ (n : Nat) (W : World),
 Loc w.heap.size [Blk.mk n 30 [Value.string x, Value.string x_1] (wrM 2)] w' W →
 R (Ending.returned (Value.bool (x_2 == 0))) W
theorem vc_lsound (s : ByteArray) (w : World) (R : Ending → World → Prop) (h : VC_lsound s w R) : Calls Tryz.prog 23 ([Value.string
    s] : List Value).toArray w R := by
  have e : execR2 { P := Tryz.prog, loops := [], pur := purM, tails := [], joins := [], boxes := [] } Tryz.f23.results.toList R (Tryz.f23.body.getD .skip) (initF [Value.string
    s] (Tryz.f23.ntmps - ([Value.string s] : List Value).length)) w = VC_lsound s w R := by kernel_rfl
  have hb : Tryz.f23.body = some (Tryz.f23.body.getD .skip) := by kernel_rfl
  exact calls_of_exec2' (P := Tryz.prog) (fn := Tryz.f23) (c := Tryz.f23.body.getD .skip) (args := [Value.string
    s]) (w := w) (R := R) purM_ok Tryz.func23 hb e h

end Go.Proofs.YtmlmdljnfokebaaGreatDoor

/- Chapter 49: MailRetries on worlds. No condition but the sizes that a reading gives, and the table of powers of ten. -/
namespace Go.Proofs.YtmlmdljnfokebaaGreatDoor
open Go.RowKit Go.Maps

def one1 (q : Qd) : List (Int × Qd) := [(1, q)]
theorem one1_get (q : Qd) : aget (one1 q) 1 = some q := rfl
theorem due_none (q : Qd) (t : Int) (h : t < q.due) : dueK (one1 q) t = [] := by
  unfold dueK one1
  rw [List.filter_cons, if_neg (by simpa using h)]; rfl
theorem due_one (q : Qd) : dueK (one1 q) q.due = [1] := by
  unfold dueK one1
  rw [List.filter_cons, if_pos (by simp)]; rfl
theorem bnc_some {m : Ml} {s : ByteArray} {code now : Int} (h : chkM m = 0) (hs : siteE s = 0) (hn : minB now = true) : (bncM m s code now).isSome = decide (m.fu.size ≠ 0) := by
  unfold bncM
  by_cases h0 : m.fu.size = 0
  · rw [if_pos h0]; simp [h0]
  · rw [if_neg h0, if_neg (by rw [h, hn]; simp), if_neg (by rw [hs]; decide)]; simp [h0]
theorem nil_dec (s : ByteArray) : (s.toList == []) = decide (s.size = 0) := by
  rw [ByteArray.toList_eq]
  rw [Bool.eq_iff_iff, beq_iff_eq, decide_eq_true_eq]
  constructor
  · intro h
    show s.data.size = 0
    rw [← Array.length_toList, h]; rfl
  · intro h
    exact List.eq_nil_of_length_eq_zero (by rw [Array.length_toList]; exact h)
set_option maxHeartbeats 2000000 in
theorem lretries_any (m : Ml) (p : Option Addr) (c : Nat) (s : ByteArray) (now : Int) (w : World) (hR : StrP w p m.hops) (hhl : m.hops.length ≤ 4611686018427387904) (hT : GT w) :
    Calls Tryz.prog 5 #[mxA m p c, .string s, .int .i64 now] w fun e w' => e = .returned (.bool true) ∧ K0 w w' := by
  refine vc_lretries m.fu m.fs m.tu m.ts m.n m.d m.sj p m.hops.length c m.bd s now w _ (fun n1 W hW => ?_)
  have kW : K0 w W := hW.kk rfl
  refine ⟨(to_any m p c W (hR.k0 kW) hhl).mono fun e w1 ⟨⟨q1, d1, he, ho1⟩, k1⟩ => ⟨_, _, _, _, _, _, _, _, _, _, _, he, .of_k0 k1, fun n3 => ⟨by split <;> omega, fun W2 hW2 => ?_⟩⟩⟩
  generalize s.extract 0 _ = s'
  have hlx : (toM m).hops.length ≤ 20 := by show (m.hops.take 20).length ≤ 20; rw [List.length_take]; omega
  have hbx : (toM m).bd.size ≤ 33000 := by show (m.bd.extract 0 (min m.bd.size 33000)).size ≤ 33000; rw [ByteArray.size_extract]; omega
  generalize toM m = x at *
  have k2 : K0 w1 W2 := hW2.kk rfl
  have k02 := (kW.trans k1).trans k2
  have hn1 := block_lt (hW2.cells 1 rfl)
  have hn3 := block_lt (hW2.cells 0 rfl)
  simp only at hn1 hn3
  refine ⟨(newq_any s' W2).mono fun e w3 ⟨hq, k3⟩ => ?_⟩
  have k03 := k02.trans k3
  rcases hq with ⟨hsn, he⟩ | ⟨hs0, b, mb, he, hQ3, gb, gm⟩
  · refine ⟨_, _, he, .of_k0 k3, ⟨(known_any w3 (hT.k0 k03)).mono fun e w4 ⟨he, k4⟩ => ⟨_, he, .of_k0 k4, bsp_intro (fun _ => ?_) (fun h => ?_)⟩⟩⟩
    · exact ⟨(known_any w4 (hT.k0 (k03.trans k4))).mono fun e w5 ⟨he, k5⟩ => ⟨_, he, .of_k0 k5, rfl, (k03.trans k4).trans k5⟩⟩
    · exfalso
      have : (siteE s' != 0) = true := by simpa using hsn
      rw [this] at h
      simp at h
  refine ⟨_, _, he, .of_k0 k3, ⟨(known_any w3 (hT.k0 k03)).mono fun e w4 ⟨he, k4⟩ => ⟨_, he, .of_k0 k4, bsp_intro (fun _ => ?_) (fun h => ?_)⟩⟩⟩
  · exact ⟨(known_any w4 (hT.k0 (k03.trans k4))).mono fun e w5 ⟨he, k5⟩ => ⟨_, he, .of_k0 k5, rfl, (k03.trans k4).trans k5⟩⟩
  have hnow : 0 ≤ now ∧ now ≤ 100000000 := by
    simp only [Bool.not_true, Bool.false_or, Bool.or_eq_false_iff, decide_eq_false_iff_not] at h
    omega
  have k04 := k03.trans k4
  have hQ4 := hQ3.k0 k4
  have gwb : w.heap.size ≤ b := Nat.le_trans k02.size gb
  have gwm : w.heap.size ≤ mb := Nat.le_trans k02.size gm
  have hd1 := own_le ho1
  have hKL : ∀ (u v : World) (L : List Nat), (∀ x ∈ L, x ≠ b ∧ x ≠ mb) → Kp (fun k => k = b ∨ k = mb) u v → KeptL L u v := fun u v L hL hk => .of_kp hk (fun x hx e => by have := hL x hx; omega)
  have hL31 : ∀ x ∈ [n3, n1], x ≠ b ∧ x ≠ mb := fun x hx => by simp at hx; omega
  refine ⟨(qadd_any b mb s' 0 [] x q1 d1 now w4 hQ4 ((strP_own ho1).k0 ((k2.trans k3).trans k4)) (fun g o hg => ?_) hd1 (by omega) (by omega) ⟨by decide, by decide⟩).mono fun e w5 hA => ?_⟩
  · have : (Value.slice q1 x.hops.length d1).ownBlock = some g := by rw [hg]; rfl
    have := own_lt ho1 this
    have := k2.size
    omega
  rcases hA with ⟨he, _, k5⟩ | ⟨hc0, hmn, _, he, ⟨p5, c5, hQ5⟩, k5⟩
  · refine ⟨_, _, he, .of_k0 k5, bsp_intro (fun _ => bsp_intro (fun _ => ?_) (fun h => by cases h)) (fun h => ?_)⟩
    · refine ⟨(qlen_any b mb s' 0 [] w5 (hQ4.k0 k5)).mono fun e w6 ⟨he, hw⟩ => ⟨_, he, by rw [hw]; exact .refl _ _, rfl, by rw [hw]; exact k04.trans k5⟩⟩
    · exfalso
      split at h
      · rename_i a; simp at h; exact a h
      · split at h <;> simp at h
  have k05 : K0 w w5 := k04.fresh k5 (fun j hj e => by omega)
  refine ⟨_, _, he, hKL _ _ _ hL31 k5, bsp_intro (fun h => by cases h) (fun _ => ?_)⟩
  have hQ5 : QR w5 b mb s' 1 (one1 ⟨x, p5, c5, 0, now⟩) := hQ5
  refine ⟨fun vs w' => ∃ (k : Nat) (t : Int) (p : Option Addr) (c : Nat), vs = [.int .i64 ((k : Int) + 1), .int .i64 (5 * 2 ^ k), .int .i64 t] ∧ k ≤ 7 ∧ 0 ≤ t ∧ t ≤ 100000000 + 5 * 2 ^ k - 5 ∧ QR w' b mb s' 1 (one1 ⟨x, p, c, (k : Int), t⟩) ∧ K0 w w',
    fun vs _ => (match vs with | .int _ x :: _ => 9 - x.toNat | _ => 0), ⟨0, now, p5, c5, rfl, by omega, hnow.1, by simp; omega, hQ5, k05⟩, ?_⟩
  rintro y1 y2 t w6 ⟨k, t', p6, c6, hv, hk7, ht0, ht1, hQ6, k06⟩ hL6
  simp only [List.cons.injEq, Value.int.injEq, true_and, and_true] at hv
  obtain ⟨rfl, rfl, rfl⟩ := hv
  have hp := pow7 k hk7
  have hmt : minB t = true := by unfold minB; simp; omega
  refine bsp_intro (fun _ => ?_) (fun h => by simp at h; omega)
  refine ⟨(qfail_any b mb s' 1 (one1 ⟨x, p6, c6, (k : Int), t⟩) 1 t 26 false w6 hQ6 ⟨by decide, by decide⟩ ⟨by decide, by decide⟩ ⟨by decide, by decide⟩ (hT.k0 k06)).mono fun e w7 hF => ?_⟩
  have hbn6 := block_lt hQ6.blk
  have hmn6 := hQ6.map.lt
  by_cases hk : k < 7
  · obtain ⟨he, hQ7, k7⟩ := hF.more (one1_get _) hmt (by show (k : Int) + 1 < 8; omega)
    have k07 : K0 w w7 := k06.fresh k7 (fun j hj e => by omega)
    have hfd : failD ⟨x, p6, c6, (k : Int), t⟩ t = t + 5 * 2 ^ k := by unfold failD; simp
    have hQ7 : QR w7 b mb s' 1 (one1 ⟨x, p6, c6, (k : Int) + 1, t + 5 * 2 ^ k⟩) := by rw [← hfd]; exact hQ7
    refine ⟨_, _, _, he, hKL _ _ _ hL31 k7, bsp_intro (fun h => by cases h) (fun _ => ?_)⟩
    refine ⟨(qget_any b mb s' 1 _ 1 w7 hQ7 ⟨by decide, by decide⟩).mono fun e w8 ⟨⟨p8, c8, he, _, _⟩, k8⟩ => ?_⟩
    rw [one1_get] at he
    refine ⟨_, _, _, _, _, _, _, _, _, _, _, _, _, he, .of_k0 k8, fun n5 => bsp_intro (fun h => ?_) (fun _ => ?_)⟩
    · exfalso; simp at h; omega
    intro W9 hW9
    have k9 : K0 w8 W9 := hW9.kk rfl
    have hQ9 := (hQ7.k0 k8).k0 k9
    have k09 := (k07.trans k8).trans k9
    have e1 : IntKind.i64.wrap (t + 5 * 2 ^ k) = t + 5 * 2 ^ k := wr64 (by omega) (by omega)
    have e2 : IntKind.i64.wrap (t + 5 * 2 ^ k - 1) = t + 5 * 2 ^ k - 1 := wr64 (by omega) (by omega)
    refine bsp_intro (fun _ => ?_) (fun h => ?_)
    · show CallsS _ _ #[_, .int .i64 (IntKind.i64.wrap (t + 5 * 2 ^ k - 1))] _ _
      rw [e2]
      refine ⟨(qdue_any b mb s' 1 _ (t + 5 * 2 ^ k - 1) W9 hQ9 (by show 1 ≤ 1000000; decide)).mono fun e w10 ⟨⟨ns, pa, ca, he, _, hpm, _⟩, k10⟩ => ?_⟩
      rw [due_none _ _ (by show t + 5 * 2 ^ k - 1 < t + 5 * 2 ^ k; omega)] at hpm
      have hns : ns.length = 0 := by have := hpm.length_eq; simpa using this
      refine ⟨_, _, _, he, .of_k0 k10, bsp_intro (fun _ => ?_) (fun h => by rw [hns] at h; simp at h)⟩
      show CallsS _ _ #[_, .int .i64 (t + 5 * 2 ^ k)] _ _
      refine ⟨(qdue_any b mb s' 1 _ (t + 5 * 2 ^ k) w10 (hQ9.k0 k10) (by show 1 ≤ 1000000; decide)).mono fun e w11 ⟨⟨ns', pb, cb, he, _, hpm, _⟩, k11⟩ => ?_⟩
      rw [show t + 5 * 2 ^ k = (⟨x, p6, c6, (k : Int) + 1, t + 5 * 2 ^ k⟩ : Qd).due from rfl, due_one] at hpm
      have hns' : ns'.length = 1 := by have := hpm.length_eq; simpa using this
      refine ⟨_, _, _, he, .of_k0 k11, bsp_intro (fun h => by exfalso; simp at h; omega) (fun _ => ?_)⟩
      have e3 : IntKind.i64.wrap ((k : Int) + 1 + 1) = ((k + 1 : Nat) : Int) + 1 := by rw [wr64 (by omega) (by omega)]; omega
      have e5 : (2 : Int) ^ (k + 1) = 2 * 2 ^ k := by rw [Int.pow_succ]; omega
      have e4 : IntKind.i64.wrap (2 * (5 * 2 ^ k)) = 5 * 2 ^ (k + 1) := by rw [wr64 (by omega) (by omega), e5]; omega
      rw [e3, e4]
      exact ⟨⟨k + 1, t + 5 * 2 ^ k, p6, c6, rfl, by omega, by omega, by rw [e5]; omega, (hQ9.k0 k10).k0 k11, (k09.trans k10).trans k11⟩, by simp only; omega⟩
    · exfalso
      simp only [Bool.not_eq_false', Bool.false_or, Option.getD_some, Option.isSome_some, Bool.not_true] at h
      rw [e1] at h
      simp at h
  · have hk : k = 7 := by omega
    subst hk
    have hst : ∃ (is : Bool) (nn last : Int) (l7 : List (Int × Qd)), e = .returned (.tuple #[.int .i64 nn, .bool is, .int .i64 0]) ∧ is = decide (x.fu.size ≠ 0) ∧ nn = (if is then 2 else 0) ∧ l7.length = (if is then 1 else 0) ∧ aget l7 1 = none ∧ QR w7 b mb s' last l7 ∧ Kp (fun k => k = b ∨ k = mb) w6 w7 := by
      have hbs := bnc_some (m := x) (s := s') (code := 26) (now := t) hc0 hs0 hmt
      rcases hF with ⟨hn, _⟩ | ⟨q, hq, h⟩
      · rw [one1_get] at hn; cases hn
      rw [one1_get] at hq
      cases hq
      rcases h with ⟨h, _⟩ | ⟨_, _, h, _⟩ | ⟨_, _, hb, he, hQ, hk⟩ | ⟨_, _, y, hb, he, ⟨p', c', hQ⟩, hk⟩
      · rw [hmt] at h; cases h
      · exfalso; simp at h
      · have hb : bncM x s' 26 t = none := hb
        rw [hb] at hbs
        exact ⟨false, 0, 1, _, he, hbs, rfl, rfl, rfl, hQ, hk⟩
      · have hb : bncM x s' 26 t = some y := hb
        rw [hb] at hbs
        exact ⟨true, 2, 2, _, he, hbs, rfl, rfl, rfl, hQ, hk⟩
    obtain ⟨is, nn, last, l7, he, his, hnn, hl7, hag, hQ7, k7⟩ := hst
    have k07 : K0 w w7 := k06.fresh k7 (fun j hj e => by omega)
    refine ⟨_, _, _, he, hKL _ _ _ hL31 k7, bsp_intro (fun h => by cases h) (fun _ => ?_)⟩
    refine ⟨(qget_any b mb s' last l7 1 w7 hQ7 ⟨by decide, by decide⟩).mono fun e w8 ⟨⟨p8, c8, he, _, _⟩, k8⟩ => ?_⟩
    rw [hag] at he
    refine ⟨_, _, _, _, _, _, _, _, _, _, _, _, _, he, .of_k0 k8, fun n5 => bsp_intro (fun _ => ?_) (fun h => by exfalso; simp at h)⟩
    refine ⟨x.fu, gimp_intro fun _ W hW => cell_at (hW.cells 0 rfl) rfl, fun W9 hW9 => ?_⟩
    have k9 : K0 w8 W9 := hW9.kk rfl
    have hQ9 := (hQ7.k0 k8).k0 k9
    have k09 := (k07.trans k8).trans k9
    refine bsp_intro (fun _ => ?_) (fun h => ?_)
    · cases is with
      | true =>
        simp only [if_true] at hnn hl7
        subst hnn
        refine bsp_intro (fun _ => ?_) (fun h => absurd h (by decide))
        refine ⟨(qlen_any b mb s' last l7 W9 hQ9).mono fun e w10 ⟨he, hw⟩ => ⟨_, he, by rw [hw]; exact .refl _ _, bsp_intro (fun h => ?_) (fun _ => ⟨.refl _ _, rfl, by rw [hw]; exact k09⟩)⟩⟩
        exfalso; rw [hl7] at h; simp at h
      | false =>
        simp only [if_false, Bool.false_eq_true] at hnn hl7
        subst hnn
        refine bsp_intro (fun h => by cases h) (fun _ => ⟨.refl _ _, bsp_intro (fun _ => ?_) (fun h => by cases h)⟩)
        refine ⟨(qlen_any b mb s' last l7 W9 hQ9).mono fun e w10 ⟨he, hw⟩ => ⟨_, he, by rw [hw]; exact .refl _ _, ?_, by rw [hw]; exact k09⟩⟩
        rw [hl7]; rfl
    · exfalso
      rw [nil_dec, his] at h
      by_cases h0 : x.fu.size = 0 <;> simp [h0] at h

end Go.Proofs.YtmlmdljnfokebaaGreatDoor
