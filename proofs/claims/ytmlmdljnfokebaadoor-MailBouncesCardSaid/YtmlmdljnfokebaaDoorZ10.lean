/- Chapter 49: the examples hold (known). The table of powers of ten reads as laid. -/
import Derived.Test.YtmlmdljnfokebaaDoorZ08
import Derived.Test.YtmlmdljnfokebaaDoorZ09
import Derived.Lib.ItoaMem
import Derived.Test.YtmlmdljnfokebaaDoorProg
import Derived.Test.YtmlmdljnfokebaaDoorZ02
import Derived.Test.YtmlmdljnfokebaaDoorZ05
import Derived.Test.YtmlmdljnfokebaaDoorZ04
import Derived.KernelRfl
namespace Go.Proofs.YtmlmdljnfokebaaDoor
open Go.RowKit Go.Maps

def km : Ml := ⟨⟨#[97, 110, 110]⟩, ⟨#[97]⟩, ⟨#[98, 111, 98]⟩, ⟨#[98]⟩, 7, 100, ⟨#[72, 105]⟩, [], ⟨#[120]⟩⟩
def kHd : List (ByteArray × ByteArray) := [(⟨#[70, 114, 111, 109]⟩, ⟨#[97, 110, 110, 64, 97]⟩), (⟨#[84, 111]⟩, ⟨#[98, 111, 98, 64, 98]⟩), (⟨#[78, 117, 109, 98, 101, 114]⟩, ⟨#[55]⟩), (⟨#[68, 97, 116, 101]⟩, ⟨#[49, 48, 48]⟩), (⟨#[72, 111, 112, 115]⟩, ⟨#[]⟩), (⟨#[83, 117, 98, 106, 101, 99, 116]⟩, ⟨#[72, 105]⟩)]
def kTx : ByteArray := ⟨#[70, 114, 111, 109, 58, 32, 97, 110, 110, 64, 97, 10, 84, 111, 58, 32, 98, 111, 98, 64, 98, 10, 78, 117, 109, 98, 101, 114, 58, 32, 55, 10, 68, 97, 116, 101, 58, 32, 49, 48, 48, 10, 72, 111, 112, 115, 58, 10, 83, 117, 98, 106, 101, 99, 116, 58, 32, 72, 105, 10]⟩
theorem d_one {n : Nat} (h : n < 10) : decI (n : Int) = ⟨#[UInt8.ofNat (48 + n)]⟩ := by unfold decI; rw [Lib.itoa_nonneg, Lib.decDigits_one h]
theorem d7 : decI 7 = ⟨#[55]⟩ := d_one (n := 7) (by decide)
theorem d8 : decI 8 = ⟨#[56]⟩ := d_one (n := 8) (by decide)
theorem d100 : decI 100 = ⟨#[49, 48, 48]⟩ := by
  show (⟨(Lib.itoa ((100 : Nat) : Int)).toArray⟩ : ByteArray) = _
  rw [Lib.itoa_nonneg, Lib.decDigits, dif_neg (by decide), Lib.decDigits_two (by decide) (by decide)]
  rfl
theorem k_chk : chkM km = 0 := by decide +kernel
theorem k_hd : hdM km = kHd := by
  unfold hdM
  rw [show km.n = 7 from rfl, show km.d = 100 from rfl, d7, d100]
  decide +kernel
theorem k_fpr : fpr kHd ⟨#[]⟩ = (kTx, 0) := by decide +kernel
def kAll : ByteArray := kTx ++ ⟨#[10]⟩ ++ ⟨#[120]⟩
theorem k_pr : prM km = (kAll, 0) := by
  unfold prM
  rw [k_chk, if_neg (by decide), k_hd, k_fpr, if_neg (by decide)]
  rfl
theorem k_site : siteE ⟨#[97]⟩ = 0 := by decide +kernel
def ky : Ml := ⟨⟨#[]⟩, ⟨#[97]⟩, ⟨#[97, 110, 110]⟩, ⟨#[97]⟩, 7, 50, ⟨#[78, 111, 116, 32, 100, 101, 108, 105, 118, 101, 114, 101, 100]⟩, [], ⟨#[98, 111, 98, 64, 98, 32, 56, 10, 72, 105, 10]⟩⟩
theorem k_bd : (km.tu ++ ⟨#[64]⟩ ++ km.ts ++ ⟨#[32]⟩ ++ ⟨#[56]⟩ ++ ⟨#[10]⟩ ++ km.sj ++ ⟨#[10]⟩ : ByteArray) = ⟨#[98, 111, 98, 64, 98, 32, 56, 10, 72, 105, 10]⟩ := by decide +kernel
theorem k_bnc : bncM km ⟨#[97]⟩ 8 50 = some ky := by
  unfold bncM
  rw [if_neg (by decide +kernel), if_neg (by rw [k_chk]; decide), if_neg (by rw [k_site]; decide), d8, k_bd]
  rfl
theorem FailP.more {w w' : World} {b mb : Nat} {site : ByteArray} {last : Int} {l : List (Int × Qd)} {a now code : Int} {e : Ending} (h : FailP w w' b mb site last l a now code false e) {x : Qd} (hx : aget l a = some x) (hm : minB now = true) (hf : x.f + 1 < 8) :
    e = .returned (.tuple #[.int .i64 0, .bool false, .int .i64 0]) ∧ QR w' b mb site last (aset l a ⟨x.m, x.p, x.c, x.f + 1, failD x now⟩) ∧ Kp (fun k => k = b ∨ k = mb) w w' := by
  rcases h with ⟨h, _⟩ | ⟨y, hy, h⟩
  · rw [hx] at h; cases h
  · rw [hx] at hy; cases hy
    rcases h with ⟨h, _⟩ | ⟨_, _, _, h⟩ | ⟨_, h, _⟩ | ⟨_, h, _⟩
    · rw [hm] at h; cases h
    · exact h
    · rcases h with h | h; cases h; omega
    · rcases h with h | h; cases h; omega
theorem FailP.last {w w' : World} {b mb : Nat} {site : ByteArray} {last : Int} {l : List (Int × Qd)} {a now code : Int} {e : Ending} (h : FailP w w' b mb site last l a now code true e) {x : Qd} {y : Ml} (hx : aget l a = some x) (hm : minB now = true) (hy : bncM x.m site code now = some y) :
    e = .returned (.tuple #[.int .i64 (last + 1), .bool true, .int .i64 0]) ∧ (∃ (p' : Option Addr) (c' : Nat), QR w' b mb site (last + 1) (aset (adel l a) (last + 1) ⟨y, p', c', 0, now⟩)) ∧ Kp (fun k => k = b ∨ k = mb) w w' := by
  rcases h with ⟨h, _⟩ | ⟨z, hz, h⟩
  · rw [hx] at h; cases h
  · rw [hx] at hz; cases hz
    rcases h with ⟨h, _⟩ | ⟨_, h, _⟩ | ⟨_, _, h, _⟩ | ⟨_, _, z, h, r⟩
    · rw [hm] at h; cases h
    · cases h
    · rw [hy] at h; cases h
    · rw [hy] at h; cases h; exact r
theorem kp_bm {b mb : Nat} {u v w : World} (h : Kp (fun k => k = b ∨ k = mb) u v) (k : K0 v w) : Kp (fun k => k = b ∨ k = mb) u w := h.trans (Kp.mono k (fun _ _ h => h.elim))
set_option maxRecDepth 100000 in
set_option maxHeartbeats 2000000 in
theorem known_any (w : World) (hT : GT w) : Calls Tryd.prog 13 #[] w fun e w' => e = .returned (.bool true) ∧ K0 w w' := by
  refine vc_lknown w _ (fun n W hW => ?_)
  have kW : K0 w W := hW.kk rfl
  have hnW := block_lt (hW.cells 0 rfl)
  simp only at hnW
  refine ⟨(mprint_any km none 0 W (fun k z hk => by simp [km] at hk) (Nat.le_refl _) (by decide +kernel) (by decide +kernel) (hT.k0 kW)).mono fun e w1 ⟨he, k1⟩ => ?_⟩
  rw [k_pr] at he
  refine ⟨_, _, he, .of_k0 k1, ⟨(newq_any ⟨#[97]⟩ w1).mono fun e w2 ⟨hq, k2⟩ => ?_⟩⟩
  rcases hq with ⟨h, _⟩ | ⟨_, b, mb, he, hQ2, gb, gm⟩
  · exact absurd k_site h
  have k02 := (kW.trans k1).trans k2
  have hnb : n ≠ b := by have := k1.size; omega
  have hnm : n ≠ mb := by have := k1.size; omega
  have gwb : w.heap.size ≤ b := by have := (kW.trans k1).size; omega
  have gwm : w.heap.size ≤ mb := by have := (kW.trans k1).size; omega
  have kept : ∀ (u v : World) (L : List Nat), (∀ x ∈ L, x ≠ b ∧ x ≠ mb) → Kp (fun k => k = b ∨ k = mb) u v → KeptL L u v := fun u v L hL hk => .of_kp hk (fun x hx e => by have := hL x hx; omega)
  refine ⟨_, _, he, .of_k0 k2, ⟨(qadd_any b mb ⟨#[97]⟩ 0 [] km none 0 10 w2 hQ2 (fun k z hk => by simp [km] at hk) (fun _ _ h => by cases h) (Nat.le_refl _) (by decide +kernel) (by decide +kernel) ⟨by decide, by decide⟩).mono fun e w3 hA => ?_⟩⟩
  rcases hA with ⟨_, h, _⟩ | ⟨_, _, _, he, ⟨p3, c3, hQ3⟩, k3⟩
  · exfalso
    rcases h with h | h | h
    · exact h k_chk
    · cases h
    · exact absurd h (by decide)
  have k03 : K0 w w3 := k02.fresh k3 (fun j hj e => by omega)
  refine ⟨_, _, he, kept _ _ _ (fun x hx => by simp at hx; subst hx; exact ⟨hnb, hnm⟩) k3, ?_⟩
  have g3 : aget (aset ([] : List (Int × Qd)) (0 + 1) ⟨km, p3, c3, 0, 10⟩) 1 = some ⟨km, p3, c3, 0, 10⟩ := rfl
  generalize aset ([] : List (Int × Qd)) (0 + 1) ⟨km, p3, c3, 0, 10⟩ = l3 at hQ3 g3
  refine ⟨(qfail_any b mb ⟨#[97]⟩ (0 + 1) l3 1 10 8 false w3 hQ3 ⟨by decide, by decide⟩ ⟨by decide, by decide⟩ ⟨by decide, by decide⟩ (hT.k0 k03)).mono fun e w4 hF => ?_⟩
  obtain ⟨he, hQ4, k4⟩ := hF.more g3 (by decide) (by show (0 : Int) + 1 < 8; decide)
  have k04 : K0 w w4 := k03.fresh k4 (fun j hj e => by omega)
  refine ⟨_, _, _, he, kept _ _ _ (fun x hx => by simp at hx; subst hx; exact ⟨hnb, hnm⟩) k4, ?_⟩
  have g4 : aget (aset l3 1 ⟨km, p3, c3, 0 + 1, failD ⟨km, p3, c3, 0, 10⟩ 10⟩) 1 = some ⟨km, p3, c3, 1, 15⟩ := by rw [aget_aset, if_pos rfl]; rfl
  have hQ4 : QR w4 b mb ⟨#[97]⟩ (0 + 1) (aset l3 1 ⟨km, p3, c3, 0 + 1, failD ⟨km, p3, c3, 0, 10⟩ 10⟩) := hQ4
  generalize aset l3 1 ⟨km, p3, c3, 0 + 1, failD ⟨km, p3, c3, 0, 10⟩ 10⟩ = l4 at hQ4 g4
  refine ⟨(qget_any b mb ⟨#[97]⟩ (0 + 1) l4 1 w4 hQ4 ⟨by decide, by decide⟩).mono fun e w5 ⟨⟨p5, c5, he, _, _⟩, k5⟩ => ?_⟩
  rw [g4] at he
  refine ⟨_, _, _, _, _, _, _, _, _, _, _, _, _, he, .of_k0 k5, fun n2 W6 hW6 => ?_⟩
  have k6 : K0 w5 W6 := hW6.kk rfl
  have k06 := (k04.trans k5).trans k6
  have hQ6 := (hQ4.k0 k5).k0 k6
  have hn2 : n2 ≠ b ∧ n2 ≠ mb := by have h1 : w5.heap.size ≤ n2 := hW6.fresh 0 rfl rfl; have := block_lt hQ4.blk; have := hQ4.map.lt; have := k5.size; omega
  refine ⟨(qfail_any b mb ⟨#[97]⟩ (0 + 1) l4 1 15 8 false W6 hQ6 ⟨by decide, by decide⟩ ⟨by decide, by decide⟩ ⟨by decide, by decide⟩ (hT.k0 k06)).mono fun e w7 hF => ?_⟩
  obtain ⟨he, hQ7, k7⟩ := hF.more g4 (by decide) (by show (1 : Int) + 1 < 8; decide)
  have k07 : K0 w w7 := k06.fresh k7 (fun j hj e => by omega)
  have hL2 : ∀ x ∈ [n2, n], x ≠ b ∧ x ≠ mb := fun x hx => by simp at hx; rcases hx with rfl | rfl; exact hn2; exact ⟨hnb, hnm⟩
  refine ⟨_, _, _, he, kept _ _ _ hL2 k7, ?_⟩
  have g7 : aget (aset l4 1 ⟨km, p3, c3, 1 + 1, failD ⟨km, p3, c3, 1, 15⟩ 15⟩) 1 = some ⟨km, p3, c3, 2, 25⟩ := by rw [aget_aset, if_pos rfl]; rfl
  have hQ7 : QR w7 b mb ⟨#[97]⟩ (0 + 1) (aset l4 1 ⟨km, p3, c3, 1 + 1, failD ⟨km, p3, c3, 1, 15⟩ 15⟩) := hQ7
  generalize aset l4 1 ⟨km, p3, c3, 1 + 1, failD ⟨km, p3, c3, 1, 15⟩ 15⟩ = l7 at hQ7 g7
  refine ⟨(qfail_any b mb ⟨#[97]⟩ (0 + 1) l7 1 25 8 false w7 hQ7 ⟨by decide, by decide⟩ ⟨by decide, by decide⟩ ⟨by decide, by decide⟩ (hT.k0 k07)).mono fun e w8 hF => ?_⟩
  obtain ⟨he, hQ8, k8⟩ := hF.more g7 (by decide) (by show (2 : Int) + 1 < 8; decide)
  have k08 : K0 w w8 := k07.fresh k8 (fun j hj e => by omega)
  refine ⟨_, _, _, he, kept _ _ _ hL2 k8, ?_⟩
  have g8 : aget (aset l7 1 ⟨km, p3, c3, 2 + 1, failD ⟨km, p3, c3, 2, 25⟩ 25⟩) 1 = some ⟨km, p3, c3, 3, 45⟩ := by rw [aget_aset, if_pos rfl]; rfl
  have hQ8 : QR w8 b mb ⟨#[97]⟩ (0 + 1) (aset l7 1 ⟨km, p3, c3, 2 + 1, failD ⟨km, p3, c3, 2, 25⟩ 25⟩) := hQ8
  generalize aset l7 1 ⟨km, p3, c3, 2 + 1, failD ⟨km, p3, c3, 2, 25⟩ 25⟩ = l8 at hQ8 g8
  refine ⟨(qget_any b mb ⟨#[97]⟩ (0 + 1) l8 1 w8 hQ8 ⟨by decide, by decide⟩).mono fun e w9 ⟨⟨p9, c9, he, _, _⟩, k9⟩ => ?_⟩
  rw [g8] at he
  refine ⟨_, _, _, _, _, _, _, _, _, _, _, _, _, he, .of_k0 k9, fun n4 Wa hWa => ?_⟩
  have ka : K0 w9 Wa := hWa.kk rfl
  have k0a := (k08.trans k9).trans ka
  have hQa := (hQ8.k0 k9).k0 ka
  have hn4 : n4 ≠ b ∧ n4 ≠ mb := by have h1 : w9.heap.size ≤ n4 := hWa.fresh 0 rfl rfl; have := block_lt hQ8.blk; have := hQ8.map.lt; have := k9.size; omega
  refine ⟨(qfail_any b mb ⟨#[97]⟩ (0 + 1) l8 1 50 8 true Wa hQa ⟨by decide, by decide⟩ ⟨by decide, by decide⟩ ⟨by decide, by decide⟩ (hT.k0 k0a)).mono fun e wb hF => ?_⟩
  obtain ⟨he, ⟨pb, cb, hQb⟩, kb⟩ := hF.last g8 (by decide) k_bnc
  have k0b : K0 w wb := k0a.fresh kb (fun j hj e => by omega)
  have hL4 : ∀ x ∈ [n4, n2, n], x ≠ b ∧ x ≠ mb := fun x hx => by simp at hx; rcases hx with rfl | rfl | rfl; exact hn4; exact hn2; exact ⟨hnb, hnm⟩
  refine ⟨_, _, _, he, kept _ _ _ hL4 kb, ?_⟩
  have gB : aget (aset (adel l8 1) (0 + 1 + 1) ⟨ky, pb, cb, 0, 50⟩) 2 = some ⟨ky, pb, cb, 0, 50⟩ := by rw [aget_aset, if_pos (by decide)]
  generalize aset (adel l8 1) (0 + 1 + 1) ⟨ky, pb, cb, 0, 50⟩ = lb at hQb gB
  refine ⟨(qget_any b mb ⟨#[97]⟩ (0 + 1 + 1) lb 2 wb hQb ⟨by decide, by decide⟩).mono fun e wc ⟨⟨pc, cc, he, _, _⟩, kc⟩ => ?_⟩
  rw [gB] at he
  refine ⟨_, _, _, _, _, _, _, _, _, _, _, _, _, he, .of_k0 kc, fun n6 => ?_⟩
  refine ⟨ky.bd, gimp_intro fun _ => fun Wd hWd => cell_at (hWd.cells 0 rfl) rfl, ky.fu, ky.fs, gimp_intro fun _ => fun Wd hWd => AtL_block (hWd.cells 0 rfl) rfl, fun Wd hWd => ?_⟩
  have kd : K0 wc Wd := hWd.kk rfl
  refine bsp_intro (fun _ => ?_) (fun h => ?_)
  · refine ⟨(mstr_any ky.fu ky.fs Wd (by decide +kernel) (by decide +kernel)).mono fun e we ⟨he, ke⟩ => ⟨_, he, .of_k0 ke, ?_⟩⟩
    refine ⟨ky.tu, ky.ts, gimp_intro fun _ => AtL_block (ke.blk (hWd.cells 0 rfl) (fun h => h)) rfl, km.fu, km.fs, gimp_intro fun _ => AtL_block (ke.blk (hWd.cells 3 rfl) (fun h => h)) rfl, _, gimp_intro fun _ => adEq _ _ _ _ (by decide +kernel) (by decide +kernel) (by decide +kernel) (by decide +kernel), ?_, ((k0b.trans kc).trans kd).trans ke⟩
    have : ∀ x : Bool, x = true → Ending.returned (.bool x) = .returned (.bool true) := fun x h => by rw [h]
    exact this _ (by kernel_rfl)
  · exfalso
    have h2 : true = false := Eq.trans (by kernel_rfl) h
    cases h2

end Go.Proofs.YtmlmdljnfokebaaDoor

/- The formulas of functions by the symbolic evaluator, and that each gives the call's contract. Written by a program (gen.py). No condition. -/
namespace Go.Proofs.YtmlmdljnfokebaaDoor
set_option maxRecDepth 100000
set_option linter.unusedVariables false

def VC_xuser (s : ByteArray) (w : World) (R : Ending → World → Prop) : Prop :=
 ∃ (I : List Value → World → Prop),
 ∃ (m : List Value → World → Nat),
 I [Value.int IntKind.i64 0] w ∧
 ∀ (x : Int) (w' : World),
 I [Value.int IntKind.i64 x] w' →
 bsp (decide (x < (↑s.size : Int)))
 ((0 ≤ x ∧ x < (↑s.size : Int)) ∧
 bsp
 (!lowerB (at8 s x.toNat) && !digitB (at8 s x.toNat) && at8 s x.toNat != 45 && at8 s x.toNat != 95 &&
 at8 s x.toNat != 46 &&
 at8 s x.toNat != 43)
 (R (Ending.returned (Value.bool false)) w')
 (I [Value.int IntKind.i64 (IntKind.i64.wrap (x + 1))] w' ∧
 m [Value.int IntKind.i64 (IntKind.i64.wrap (x + 1))] w' < m [Value.int IntKind.i64 x] w'))
 (R (Ending.returned (Value.bool (decide ((↑s.size : Int) ≤ 40)))) w')
theorem vc_xuser (s : ByteArray) (w : World) (R : Ending → World → Prop) (h : VC_xuser s w R) : Calls Tryd.prog 39 ([Value.string
    s] : List Value).toArray w R := by
  have e : execR2 { P := Tryd.prog, loops := [(2, [(3, Ck.int IntKind.i64)])], pur := purM, tails := [], joins := [], boxes := [] } Tryd.f39.results.toList R (Tryd.f39.body.getD .skip) (initF [Value.string
    s] (Tryd.f39.ntmps - ([Value.string s] : List Value).length)) w = VC_xuser s w R := by kernel_rfl
  have hb : Tryd.f39.body = some (Tryd.f39.body.getD .skip) := by kernel_rfl
  exact calls_of_exec2' (P := Tryd.prog) (fn := Tryd.f39) (c := Tryd.f39.body.getD .skip) (args := [Value.string
    s]) (w := w) (R := R) purM_ok Tryd.func39 hb e h

def VC_xsite (s : ByteArray) (w : World) (R : Ending → World → Prop) : Prop :=
 CallsS Tryd.prog 50 #[Value.string s] w fun (e : Ending) (w' : World) =>
 ∃ (x : Int),
 ∃ (x_1 : Int),
 e = Ending.returned (Value.tuple #[Value.int IntKind.i64 x, Value.int IntKind.i64 x_1]) ∧
 KeptL [] w w' ∧ R (Ending.returned (Value.int IntKind.i64 x_1)) w'
theorem vc_xsite (s : ByteArray) (w : World) (R : Ending → World → Prop) (h : VC_xsite s w R) : Calls Tryd.prog 25 ([Value.string
    s] : List Value).toArray w R := by
  have e : execR2 { P := Tryd.prog, loops := [], pur := purM, tails := [], joins := [], boxes := [] } Tryd.f25.results.toList R (Tryd.f25.body.getD .skip) (initF [Value.string
    s] (Tryd.f25.ntmps - ([Value.string s] : List Value).length)) w = VC_xsite s w R := by kernel_rfl
  have hb : Tryd.f25.body = some (Tryd.f25.body.getD .skip) := by kernel_rfl
  exact calls_of_exec2' (P := Tryd.prog) (fn := Tryd.f25) (c := Tryd.f25.body.getD .skip) (args := [Value.string
    s]) (w := w) (R := R) purM_ok Tryd.func25 hb e h

def VC_xtext (a : ByteArray) (b : ByteArray) (w : World) (R : Ending → World → Prop) : Prop :=
 ∀ (n : Nat),
 (9223372036854775807 - (↑(a.size + (ByteArray.mk #[64]).size) : Int)).NonNeg ∧
 (9223372036854775807 - (↑((a ++ ByteArray.mk #[64]).size + b.size) : Int)).NonNeg ∧
 ∀ (W : World),
 Loc w.heap.size [Blk.mk n 23 [Value.string a, Value.string b] 2] w W →
 R (Ending.returned (Value.string (a ++ ByteArray.mk #[64] ++ b))) W
theorem vc_xtext (a : ByteArray) (b : ByteArray) (w : World) (R : Ending → World → Prop) (h : VC_xtext a b w R) : Calls Tryd.prog 27 ([Value.agg
    #[Value.string a, Value.string b]] : List Value).toArray w R := by
  have e : execR2 { P := Tryd.prog, loops := [], pur := purM, tails := [], joins := [], boxes := [] } Tryd.f27.results.toList R (Tryd.f27.body.getD .skip) (initF [Value.agg
    #[Value.string a,
      Value.string
        b]] (Tryd.f27.ntmps - ([Value.agg
    #[Value.string a, Value.string b]] : List Value).length)) w = VC_xtext a b w R := by kernel_rfl
  have hb : Tryd.f27.body = some (Tryd.f27.body.getD .skip) := by kernel_rfl
  exact calls_of_exec2' (P := Tryd.prog) (fn := Tryd.f27) (c := Tryd.f27.body.getD .skip) (args := [Value.agg
    #[Value.string a, Value.string b]]) (w := w) (R := R) purM_ok Tryd.func27 hb e h

def VC_xaddr (s : ByteArray) (w : World) (R : Ending → World → Prop) : Prop :=
 ∀ (n : Nat) (W : World),
 Loc w.heap.size [Blk.mk n 23 [Value.string (ByteArray.mk #[]), Value.string (ByteArray.mk #[])] 2] w W →
 ∃ (I : List Value → World → Prop),
 ∃ (m : List Value → World → Nat),
 I [Value.int IntKind.i64 0, Value.int IntKind.i64 0, Value.int IntKind.i64 0] W ∧
 ∀ (x x_1 x_2 : Int) (w' : World),
 I [Value.int IntKind.i64 x, Value.int IntKind.i64 x_1, Value.int IntKind.i64 x_2] w' →
 Loc w.heap.size [Blk.mk n 23 [Value.string (ByteArray.mk #[]), Value.string (ByteArray.mk #[])] 0] w' w' →
 bsp (decide (x < (↑s.size : Int)))
 ((0 ≤ x ∧ x < (↑s.size : Int)) ∧
 bsp (at8 s x.toNat == 64)
 (I
 [Value.int IntKind.i64 (IntKind.i64.wrap (x + 1)), Value.int IntKind.i64 (IntKind.i64.wrap (x_1 + 1)),
 Value.int IntKind.i64 x]
 w' ∧
 m
 [Value.int IntKind.i64 (IntKind.i64.wrap (x + 1)), Value.int IntKind.i64 (IntKind.i64.wrap (x_1 + 1)),
 Value.int IntKind.i64 x]
 w' <
 m [Value.int IntKind.i64 x, Value.int IntKind.i64 x_1, Value.int IntKind.i64 x_2] w')
 (I [Value.int IntKind.i64 (IntKind.i64.wrap (x + 1)), Value.int IntKind.i64 x_1, Value.int IntKind.i64 x_2]
 w' ∧
 m [Value.int IntKind.i64 (IntKind.i64.wrap (x + 1)), Value.int IntKind.i64 x_1, Value.int IntKind.i64 x_2]
 w' <
 m [Value.int IntKind.i64 x, Value.int IntKind.i64 x_1, Value.int IntKind.i64 x_2] w'))
 (bsp (x_1 != 1)
 (∀ (W : World),
 Loc w.heap.size [Blk.mk n 23 [Value.string (ByteArray.mk #[]), Value.string (ByteArray.mk #[])] (wrM 0)] w'
 W →
 R
 (Ending.returned
 (Value.tuple
 #[Value.agg #[Value.string (ByteArray.mk #[]), Value.string (ByteArray.mk #[])],
 Value.int IntKind.i64 3]))
 W)
 ((0 ≤ x_2 ∧ x_2 ≤ (↑s.size : Int)) ∧
 CallsS Tryd.prog 39 #[Value.string (s.extract 0 x_2.toNat)] w' fun (e : Ending) (w'_1 : World) =>
 ∃ (x : Bool),
 e = Ending.returned (Value.bool x) ∧
 KeptL [n] w' w'_1 ∧
 bsp (!x)
 (∀ (W : World),
 Loc w.heap.size
 [Blk.mk n 23 [Value.string (ByteArray.mk #[]), Value.string (ByteArray.mk #[])] (wrM 0)] w'_1 W →
 R
 (Ending.returned
 (Value.tuple
 #[Value.agg #[Value.string (ByteArray.mk #[]), Value.string (ByteArray.mk #[])],
 Value.int IntKind.i64 12]))
 W)
 ((0 ≤ IntKind.i64.wrap (x_2 + 1) ∧ IntKind.i64.wrap (x_2 + 1) ≤ (↑s.size : Int)) ∧
 CallsS Tryd.prog 25 #[Value.string (s.extract (IntKind.i64.wrap (x_2 + 1)).toNat s.size)] w'_1
 fun (e : Ending) (w' : World) =>
 ∃ (x : Int),
 e = Ending.returned (Value.int IntKind.i64 x) ∧
 KeptL [n] w'_1 w' ∧
 bsp (x != 0)
 ((0 ≤ IntKind.i64.wrap (x_2 + 1) ∧ IntKind.i64.wrap (x_2 + 1) ≤ (↑s.size : Int)) ∧
 CallsS Tryd.prog 25 #[Value.string (s.extract (IntKind.i64.wrap (x_2 + 1)).toNat s.size)] w'
 fun (e : Ending) (w'_2 : World) =>
 ∃ (x : Int),
 e = Ending.returned (Value.int IntKind.i64 x) ∧
 KeptL [n] w' w'_2 ∧
 ∀ (W : World),
 Loc w.heap.size
 [Blk.mk n 23 [Value.string (ByteArray.mk #[]), Value.string (ByteArray.mk #[])] (wrM 0)]
 w'_2 W →
 R
 (Ending.returned
 (Value.tuple
 #[Value.agg #[Value.string (ByteArray.mk #[]), Value.string (ByteArray.mk #[])],
 Value.int IntKind.i64 x]))
 W)
 ((0 ≤ x_2 ∧ x_2 ≤ (↑s.size : Int)) ∧
 (0 ≤ IntKind.i64.wrap (x_2 + 1) ∧ IntKind.i64.wrap (x_2 + 1) ≤ (↑s.size : Int)) ∧
 ∀ (W : World),
 Loc w.heap.size
 [Blk.mk n 23
 [Value.string (s.extract 0 x_2.toNat),
 Value.string (s.extract (IntKind.i64.wrap (x_2 + 1)).toNat s.size)]
 (wrM 0)]
 w' W →
 R
 (Ending.returned
 (Value.tuple
 #[Value.agg
 #[Value.string (s.extract 0 x_2.toNat),
 Value.string (s.extract (IntKind.i64.wrap (x_2 + 1)).toNat s.size)],
 Value.int IntKind.i64 0]))
 W))))
theorem vc_xaddr (s : ByteArray) (w : World) (R : Ending → World → Prop) (h : VC_xaddr s w R) : Calls Tryd.prog 20 ([Value.string
    s] : List Value).toArray w R := by
  have e : execR2 { P := Tryd.prog, loops := [(3, [(6, Ck.int IntKind.i64), (5, Ck.int IntKind.i64), (4, Ck.int IntKind.i64)])], pur := purM, tails := [(14, 8)], joins := [], boxes := [] } Tryd.f20.results.toList R (Tryd.f20.body.getD .skip) (initF [Value.string
    s] (Tryd.f20.ntmps - ([Value.string s] : List Value).length)) w = VC_xaddr s w R := by kernel_rfl
  have hb : Tryd.f20.body = some (Tryd.f20.body.getD .skip) := by kernel_rfl
  exact calls_of_exec2' (P := Tryd.prog) (fn := Tryd.f20) (c := Tryd.f20.body.getD .skip) (args := [Value.string
    s]) (w := w) (R := R) purM_ok Tryd.func20 hb e h

def VC_xhas (p : Option Addr) (n : Nat) (c : Nat) (s : ByteArray) (w : World) (R : Ending → World → Prop) : Prop :=
 ∃ (I : List Value → World → Prop),
 ∃ (m : List Value → World → Nat),
 I [Value.int IntKind.i64 0] w ∧
 ∀ (x : Int) (w' : World),
 I [Value.int IntKind.i64 x] w' →
 bsp (decide (x < (↑n : Int)))
 (nn true p fun (b o : Nat) =>
 (0 ≤ x ∧ x < (↑n : Int)) ∧
 ∃ (x_1 : ByteArray),
 w'.cell? (Addr.mk b (o + x.toNat) none) = some (Value.string x_1) ∧
 bsp (x_1.toList == s.toList) (R (Ending.returned (Value.bool true)) w')
 (I [Value.int IntKind.i64 (IntKind.i64.wrap (x + 1))] w' ∧
 m [Value.int IntKind.i64 (IntKind.i64.wrap (x + 1))] w' < m [Value.int IntKind.i64 x] w'))
 (R (Ending.returned (Value.bool false)) w')
theorem vc_xhas (p : Option Addr) (n : Nat) (c : Nat) (s : ByteArray) (w : World) (R : Ending → World → Prop) (h : VC_xhas p n c s w R) : Calls Tryd.prog 41 ([Value.slice
    p n c,
  Value.string s] : List Value).toArray w R := by
  have e : execR2 { P := Tryd.prog, loops := [(2, [(5, Ck.int IntKind.i64)])], pur := purM, tails := [], joins := [], boxes := [] } Tryd.f41.results.toList R (Tryd.f41.body.getD .skip) (initF [Value.slice
    p n c,
  Value.string
    s] (Tryd.f41.ntmps - ([Value.slice p n c,
  Value.string s] : List Value).length)) w = VC_xhas p n c s w R := by kernel_rfl
  have hb : Tryd.f41.body = some (Tryd.f41.body.getD .skip) := by kernel_rfl
  exact calls_of_exec2' (P := Tryd.prog) (fn := Tryd.f41) (c := Tryd.f41.body.getD .skip) (args := [Value.slice p n c,
  Value.string s]) (w := w) (R := R) purM_ok Tryd.func41 hb e h

def VC_xsubj (s : ByteArray) (w : World) (R : Ending → World → Prop) : Prop :=
 bsp (decide ((↑s.size : Int) > 200)) (R (Ending.returned (Value.int IntKind.i64 5)) w)
 (CallsS Tryd.prog 59 #[Value.string s] w fun (e : Ending) (w' : World) =>
 ∃ (x : Int),
 e = Ending.returned (Value.int IntKind.i64 x) ∧
 KeptL [] w w' ∧
 bsp (decide (x ≥ 0)) (R (Ending.returned (Value.int IntKind.i64 6)) w')
 (CallsS Tryd.prog 60 #[Value.string s] w' fun (e : Ending) (w'_1 : World) =>
 ∃ (x : ByteArray),
 e = Ending.returned (Value.string x) ∧
 KeptL [] w' w'_1 ∧
 bsp (!x.toList == s.toList) (R (Ending.returned (Value.int IntKind.i64 3)) w'_1)
 (R (Ending.returned (Value.int IntKind.i64 0)) w'_1)))
theorem vc_xsubj (s : ByteArray) (w : World) (R : Ending → World → Prop) (h : VC_xsubj s w R) : Calls Tryd.prog 40 ([Value.string
    s] : List Value).toArray w R := by
  have e : execR2 { P := Tryd.prog, loops := [], pur := purM, tails := [], joins := [], boxes := [] } Tryd.f40.results.toList R (Tryd.f40.body.getD .skip) (initF [Value.string
    s] (Tryd.f40.ntmps - ([Value.string s] : List Value).length)) w = VC_xsubj s w R := by kernel_rfl
  have hb : Tryd.f40.body = some (Tryd.f40.body.getD .skip) := by kernel_rfl
  exact calls_of_exec2' (P := Tryd.prog) (fn := Tryd.f40) (c := Tryd.f40.body.getD .skip) (args := [Value.string
    s]) (w := w) (R := R) purM_ok Tryd.func40 hb e h

def VC_xcheck (fu : ByteArray) (fs : ByteArray) (tu : ByteArray) (ts : ByteArray) (n : Int) (d : Int) (sj : ByteArray) (hp : Option Addr) (hn : Nat) (hc : Nat) (bd : ByteArray) (w : World) (R : Ending → World → Prop) : Prop :=
 ∀ (n_1 : Nat) (W : World),
 Loc w.heap.size
 [Blk.mk n_1 26
 [Value.string fu, Value.string fs, Value.string tu, Value.string ts, Value.int IntKind.i64 n,
 Value.int IntKind.i64 d, Value.string sj, Value.slice hp hn hc, Value.string bd]
 2]
 w W →
 CallsS Tryd.prog 39 #[Value.string fu] W fun (e : Ending) (w' : World) =>
 ∃ (x : Bool),
 e = Ending.returned (Value.bool x) ∧
 KeptL [n_1] W w' ∧
 bsp (!x) (R (Ending.returned (Value.int IntKind.i64 12)) w')
 (CallsS Tryd.prog 25 #[Value.string fs] w' fun (e : Ending) (w'_1 : World) =>
 ∃ (x : Int),
 e = Ending.returned (Value.int IntKind.i64 x) ∧
 KeptL [n_1] w' w'_1 ∧
 bsp (x != 0)
 (CallsS Tryd.prog 25 #[Value.string fs] w'_1 fun (e : Ending) (w' : World) =>
 ∃ (x : Int),
 e = Ending.returned (Value.int IntKind.i64 x) ∧
 KeptL [n_1] w'_1 w' ∧ R (Ending.returned (Value.int IntKind.i64 x)) w')
 (CallsS Tryd.prog 39 #[Value.string tu] w'_1 fun (e : Ending) (w' : World) =>
 ∃ (x : Bool),
 e = Ending.returned (Value.bool x) ∧
 KeptL [n_1] w'_1 w' ∧
 ∃ (x_1 : ByteArray),
 gimp (!!x) (w'.cell? (Addr.mk n_1 (0 + 2) none) = some (Value.string x_1)) ∧
 bsp (!x || x_1.toList == []) (R (Ending.returned (Value.int IntKind.i64 12)) w')
 (CallsS Tryd.prog 25 #[Value.string ts] w' fun (e : Ending) (w'_2 : World) =>
 ∃ (x : Int),
 e = Ending.returned (Value.int IntKind.i64 x) ∧
 KeptL [n_1] w' w'_2 ∧
 bsp (x != 0)
 (CallsS Tryd.prog 25 #[Value.string ts] w'_2 fun (e : Ending) (w' : World) =>
 ∃ (x : Int),
 e = Ending.returned (Value.int IntKind.i64 x) ∧
 KeptL [n_1] w'_2 w' ∧ R (Ending.returned (Value.int IntKind.i64 x)) w')
 (∃ (x : Int),
 gimp (!decide (n < 0))
 (w'_2.cell? (Addr.mk n_1 (0 + 4) none) = some (Value.int IntKind.i64 x)) ∧
 bsp (decide (n < 0) || decide (x > 2147483647))
 (R (Ending.returned (Value.int IntKind.i64 2)) w'_2)
 (bsp (!minB d) (R (Ending.returned (Value.int IntKind.i64 13)) w'_2)
 (CallsS Tryd.prog 40 #[Value.string sj] w'_2 fun (e : Ending) (w' : World) =>
 ∃ (x : Int),
 e = Ending.returned (Value.int IntKind.i64 x) ∧
 KeptL [n_1] w'_2 w' ∧
 bsp (x != 0)
 (CallsS Tryd.prog 40 #[Value.string sj] w' fun (e : Ending) (w'_3 : World) =>
 ∃ (x : Int),
 e = Ending.returned (Value.int IntKind.i64 x) ∧
 KeptL [n_1] w' w'_3 ∧ R (Ending.returned (Value.int IntKind.i64 x)) w'_3)
 (bsp (decide ((↑hn : Int) > 16)) (R (Ending.returned (Value.int IntKind.i64 9)) w')
 (∃ (I : List Value → World → Prop),
 ∃ (m : List Value → World → Nat),
 I [Value.int IntKind.i64 0] w' ∧
 ∀ (x : Int) (w' : World),
 I [Value.int IntKind.i64 x] w' →
 Loc w.heap.size
 [Blk.mk n_1 26
 [Value.string fu, Value.string fs, Value.string tu, Value.string ts,
 Value.int IntKind.i64 n, Value.int IntKind.i64 d, Value.string sj,
 Value.slice hp hn hc, Value.string bd]
 0]
 w' w' →
 bsp (decide (x < (↑hn : Int)))
 (nn true hp fun (b o : Nat) =>
 (0 ≤ x ∧ x < (↑hn : Int)) ∧
 ∃ (x_2 : ByteArray),
 w'.cell? (Addr.mk b (o + x.toNat) none) = some (Value.string x_2) ∧
 CallsS Tryd.prog 25 #[Value.string x_2] w'
 fun (e : Ending) (w'_3 : World) =>
 ∃ (x_3 : Int),
 e = Ending.returned (Value.int IntKind.i64 x_3) ∧
 KeptL [n_1] w' w'_3 ∧
 bsp (x_3 != 0) (R (Ending.returned (Value.int IntKind.i64 x_3)) w'_3)
 ((0 ≤ x ∧ x ≤ (↑hc : Int)) ∧
 nn true hp fun (b o : Nat) =>
 (0 ≤ x ∧ x < (↑hn : Int)) ∧
 ∃ (x_4 : ByteArray),
 (∀ (W : World),
 Loc w.heap.size
 [Blk.mk n_1 26
 [Value.string fu, Value.string fs, Value.string tu,
 Value.string ts, Value.int IntKind.i64 n,
 Value.int IntKind.i64 d, Value.string sj,
 Value.slice hp hn hc, Value.string bd]
 0]
 w'_3 W →
 W.cell? (Addr.mk b (o + x.toNat) none) =
 some (Value.string x_4)) ∧
 ∀ (W : World),
 Loc w.heap.size
 [Blk.mk n_1 26
 [Value.string fu, Value.string fs, Value.string tu,
 Value.string ts, Value.int IntKind.i64 n,
 Value.int IntKind.i64 d, Value.string sj,
 Value.slice hp hn hc, Value.string bd]
 0]
 w'_3 W →
 CallsS Tryd.prog 41
 #[Value.slice hp x.toNat hc, Value.string x_4] W
 fun (e : Ending) (w'_4 : World) =>
 ∃ (x_5 : Bool),
 e = Ending.returned (Value.bool x_5) ∧
 KeptL [n_1] W w'_4 ∧
 bsp x_5
 (R (Ending.returned (Value.int IntKind.i64 24)) w'_4)
 (I [Value.int IntKind.i64 (IntKind.i64.wrap (x + 1))]
 w'_4 ∧
 m [Value.int IntKind.i64 (IntKind.i64.wrap (x + 1))]
 w'_4 <
 m [Value.int IntKind.i64 x] w')))
 (bsp (decide ((↑bd.size : Int) > 32768))
 (R (Ending.returned (Value.int IntKind.i64 5)) w')
 (R (Ending.returned (Value.int IntKind.i64 0)) w'))))))))))
theorem vc_xcheck (fu : ByteArray) (fs : ByteArray) (tu : ByteArray) (ts : ByteArray) (n : Int) (d : Int) (sj : ByteArray) (hp : Option Addr) (hn : Nat) (hc : Nat) (bd : ByteArray) (w : World) (R : Ending → World → Prop) (h : VC_xcheck fu fs tu ts n d sj hp hn hc bd w R) : Calls Tryd.prog 15 ([Value.agg
    #[Value.string fu, Value.string fs, Value.string tu, Value.string ts, Value.int IntKind.i64 n,
      Value.int IntKind.i64 d, Value.string sj, Value.slice hp hn hc, Value.string bd]] : List Value).toArray w R := by
  have e : execR2 { P := Tryd.prog, loops := [(18, [(3, Ck.int IntKind.i64)])], pur := purM, tails := [(23, 9)], joins := [], boxes := [] } Tryd.f15.results.toList R (Tryd.f15.body.getD .skip) (initF [Value.agg
    #[Value.string fu, Value.string fs, Value.string tu, Value.string ts, Value.int IntKind.i64 n,
      Value.int IntKind.i64 d, Value.string sj, Value.slice hp hn hc,
      Value.string
        bd]] (Tryd.f15.ntmps - ([Value.agg
    #[Value.string fu, Value.string fs, Value.string tu, Value.string ts, Value.int IntKind.i64 n,
      Value.int IntKind.i64 d, Value.string sj, Value.slice hp hn hc,
      Value.string bd]] : List Value).length)) w = VC_xcheck fu fs tu ts n d sj hp hn hc bd w R := by kernel_rfl
  have hb : Tryd.f15.body = some (Tryd.f15.body.getD .skip) := by kernel_rfl
  exact calls_of_exec2' (P := Tryd.prog) (fn := Tryd.f15) (c := Tryd.f15.body.getD .skip) (args := [Value.agg
    #[Value.string fu, Value.string fs, Value.string tu, Value.string ts, Value.int IntKind.i64 n,
      Value.int IntKind.i64 d, Value.string sj, Value.slice hp hn hc,
      Value.string bd]]) (w := w) (R := R) purM_ok Tryd.func15 hb e h

def VC_xsame (fu : ByteArray) (fs : ByteArray) (tu : ByteArray) (ts : ByteArray) (n : Int) (d : Int) (sj : ByteArray) (hp : Option Addr) (hn : Nat) (hc : Nat) (bd : ByteArray) (fuy : ByteArray) (fsy : ByteArray) (tuy : ByteArray) (tsy : ByteArray) (ny : Int) (dy : Int) (sjy : ByteArray) (hpy : Option Addr) (hny : Nat) (hcy : Nat) (bdy : ByteArray) (w : World) (R : Ending → World → Prop) : Prop :=
 ∀ (n_1 n_2 : Nat),
 ∃ (r : Bool),
 EqP Tryd.prog 23 (Value.agg #[Value.string fu, Value.string fs]) (Value.agg #[Value.string fuy, Value.string fsy]) r ∧
 ∃ (x : ByteArray),
 ∃ (x_1 : ByteArray),
 gimp r
 (∀ (W : World),
 Loc w.heap.size
 [Blk.mk n_2 26
 [Value.string fuy, Value.string fsy, Value.string tuy, Value.string tsy, Value.int IntKind.i64 ny,
 Value.int IntKind.i64 dy, Value.string sjy, Value.slice hpy hny hcy, Value.string bdy]
 2,
 Blk.mk n_1 26
 [Value.string fu, Value.string fs, Value.string tu, Value.string ts, Value.int IntKind.i64 n,
 Value.int IntKind.i64 d, Value.string sj, Value.slice hp hn hc, Value.string bd]
 2]
 w W →
 AtL W n_1 (0 + 2) [Value.string x, Value.string x_1]) ∧
 ∃ (x_2 : ByteArray),
 ∃ (x_3 : ByteArray),
 gimp r
 (∀ (W : World),
 Loc w.heap.size
 [Blk.mk n_2 26
 [Value.string fuy, Value.string fsy, Value.string tuy, Value.string tsy, Value.int IntKind.i64 ny,
 Value.int IntKind.i64 dy, Value.string sjy, Value.slice hpy hny hcy, Value.string bdy]
 2,
 Blk.mk n_1 26
 [Value.string fu, Value.string fs, Value.string tu, Value.string ts, Value.int IntKind.i64 n,
 Value.int IntKind.i64 d, Value.string sj, Value.slice hp hn hc, Value.string bd]
 2]
 w W →
 AtL W n_2 (0 + 2) [Value.string x_2, Value.string x_3]) ∧
 ∃ (r_1 : Bool),
 gimp r
 (EqP Tryd.prog 23 (Value.agg #[Value.string x, Value.string x_1])
 (Value.agg #[Value.string x_2, Value.string x_3]) r_1) ∧
 ∃ (x : Int),
 gimp (r && r_1)
 (∀ (W : World),
 Loc w.heap.size
 [Blk.mk n_2 26
 [Value.string fuy, Value.string fsy, Value.string tuy, Value.string tsy, Value.int IntKind.i64 ny,
 Value.int IntKind.i64 dy, Value.string sjy, Value.slice hpy hny hcy, Value.string bdy]
 2,
 Blk.mk n_1 26
 [Value.string fu, Value.string fs, Value.string tu, Value.string ts, Value.int IntKind.i64 n,
 Value.int IntKind.i64 d, Value.string sj, Value.slice hp hn hc, Value.string bd]
 2]
 w W →
 W.cell? (Addr.mk n_1 (0 + 4) none) = some (Value.int IntKind.i64 x)) ∧
 ∃ (x_4 : Int),
 gimp (r && r_1)
 (∀ (W : World),
 Loc w.heap.size
 [Blk.mk n_2 26
 [Value.string fuy, Value.string fsy, Value.string tuy, Value.string tsy, Value.int IntKind.i64 ny,
 Value.int IntKind.i64 dy, Value.string sjy, Value.slice hpy hny hcy, Value.string bdy]
 2,
 Blk.mk n_1 26
 [Value.string fu, Value.string fs, Value.string tu, Value.string ts, Value.int IntKind.i64 n,
 Value.int IntKind.i64 d, Value.string sj, Value.slice hp hn hc, Value.string bd]
 2]
 w W →
 W.cell? (Addr.mk n_2 (0 + 4) none) = some (Value.int IntKind.i64 x_4)) ∧
 ∃ (x_5 : Int),
 gimp (r && r_1 && x == x_4)
 (∀ (W : World),
 Loc w.heap.size
 [Blk.mk n_2 26
 [Value.string fuy, Value.string fsy, Value.string tuy, Value.string tsy,
 Value.int IntKind.i64 ny, Value.int IntKind.i64 dy, Value.string sjy, Value.slice hpy hny hcy,
 Value.string bdy]
 2,
 Blk.mk n_1 26
 [Value.string fu, Value.string fs, Value.string tu, Value.string ts, Value.int IntKind.i64 n,
 Value.int IntKind.i64 d, Value.string sj, Value.slice hp hn hc, Value.string bd]
 2]
 w W →
 W.cell? (Addr.mk n_1 (0 + 5) none) = some (Value.int IntKind.i64 x_5)) ∧
 ∃ (x_6 : Int),
 gimp (r && r_1 && x == x_4)
 (∀ (W : World),
 Loc w.heap.size
 [Blk.mk n_2 26
 [Value.string fuy, Value.string fsy, Value.string tuy, Value.string tsy,
 Value.int IntKind.i64 ny, Value.int IntKind.i64 dy, Value.string sjy, Value.slice hpy hny hcy,
 Value.string bdy]
 2,
 Blk.mk n_1 26
 [Value.string fu, Value.string fs, Value.string tu, Value.string ts, Value.int IntKind.i64 n,
 Value.int IntKind.i64 d, Value.string sj, Value.slice hp hn hc, Value.string bd]
 2]
 w W →
 W.cell? (Addr.mk n_2 (0 + 5) none) = some (Value.int IntKind.i64 x_6)) ∧
 ∃ (x_7 : ByteArray),
 gimp (r && r_1 && x == x_4 && x_5 == x_6)
 (∀ (W : World),
 Loc w.heap.size
 [Blk.mk n_2 26
 [Value.string fuy, Value.string fsy, Value.string tuy, Value.string tsy,
 Value.int IntKind.i64 ny, Value.int IntKind.i64 dy, Value.string sjy,
 Value.slice hpy hny hcy, Value.string bdy]
 2,
 Blk.mk n_1 26
 [Value.string fu, Value.string fs, Value.string tu, Value.string ts, Value.int IntKind.i64 n,
 Value.int IntKind.i64 d, Value.string sj, Value.slice hp hn hc, Value.string bd]
 2]
 w W →
 W.cell? (Addr.mk n_1 (0 + 6) none) = some (Value.string x_7)) ∧
 ∃ (x_8 : ByteArray),
 gimp (r && r_1 && x == x_4 && x_5 == x_6)
 (∀ (W : World),
 Loc w.heap.size
 [Blk.mk n_2 26
 [Value.string fuy, Value.string fsy, Value.string tuy, Value.string tsy,
 Value.int IntKind.i64 ny, Value.int IntKind.i64 dy, Value.string sjy,
 Value.slice hpy hny hcy, Value.string bdy]
 2,
 Blk.mk n_1 26
 [Value.string fu, Value.string fs, Value.string tu, Value.string ts,
 Value.int IntKind.i64 n, Value.int IntKind.i64 d, Value.string sj, Value.slice hp hn hc,
 Value.string bd]
 2]
 w W →
 W.cell? (Addr.mk n_2 (0 + 6) none) = some (Value.string x_8)) ∧
 ∃ (x_9 : ByteArray),
 gimp (r && r_1 && x == x_4 && x_5 == x_6 && x_7.toList == x_8.toList)
 (∀ (W : World),
 Loc w.heap.size
 [Blk.mk n_2 26
 [Value.string fuy, Value.string fsy, Value.string tuy, Value.string tsy,
 Value.int IntKind.i64 ny, Value.int IntKind.i64 dy, Value.string sjy,
 Value.slice hpy hny hcy, Value.string bdy]
 2,
 Blk.mk n_1 26
 [Value.string fu, Value.string fs, Value.string tu, Value.string ts,
 Value.int IntKind.i64 n, Value.int IntKind.i64 d, Value.string sj, Value.slice hp hn hc,
 Value.string bd]
 2]
 w W →
 W.cell? (Addr.mk n_1 (0 + 8) none) = some (Value.string x_9)) ∧
 ∃ (x_10 : ByteArray),
 gimp (r && r_1 && x == x_4 && x_5 == x_6 && x_7.toList == x_8.toList)
 (∀ (W : World),
 Loc w.heap.size
 [Blk.mk n_2 26
 [Value.string fuy, Value.string fsy, Value.string tuy, Value.string tsy,
 Value.int IntKind.i64 ny, Value.int IntKind.i64 dy, Value.string sjy,
 Value.slice hpy hny hcy, Value.string bdy]
 2,
 Blk.mk n_1 26
 [Value.string fu, Value.string fs, Value.string tu, Value.string ts,
 Value.int IntKind.i64 n, Value.int IntKind.i64 d, Value.string sj,
 Value.slice hp hn hc, Value.string bd]
 2]
 w W →
 W.cell? (Addr.mk n_2 (0 + 8) none) = some (Value.string x_10)) ∧
 ∃ (p : Option Addr),
 ∃ (n_3 : Nat),
 ∃ (c : Nat),
 gimp
 (r && r_1 && x == x_4 && x_5 == x_6 && x_7.toList == x_8.toList &&
 x_9.toList == x_10.toList)
 (∀ (W : World),
 Loc w.heap.size
 [Blk.mk n_2 26
 [Value.string fuy, Value.string fsy, Value.string tuy, Value.string tsy,
 Value.int IntKind.i64 ny, Value.int IntKind.i64 dy, Value.string sjy,
 Value.slice hpy hny hcy, Value.string bdy]
 2,
 Blk.mk n_1 26
 [Value.string fu, Value.string fs, Value.string tu, Value.string ts,
 Value.int IntKind.i64 n, Value.int IntKind.i64 d, Value.string sj,
 Value.slice hp hn hc, Value.string bd]
 2]
 w W →
 W.cell? (Addr.mk n_1 (0 + 7) none) = some (Value.slice p n_3 c)) ∧
 ∃ (p_1 : Option Addr),
 ∃ (n_4 : Nat),
 ∃ (c_1 : Nat),
 gimp
 (r && r_1 && x == x_4 && x_5 == x_6 && x_7.toList == x_8.toList &&
 x_9.toList == x_10.toList)
 (∀ (W : World),
 Loc w.heap.size
 [Blk.mk n_2 26
 [Value.string fuy, Value.string fsy, Value.string tuy, Value.string tsy,
 Value.int IntKind.i64 ny, Value.int IntKind.i64 dy, Value.string sjy,
 Value.slice hpy hny hcy, Value.string bdy]
 2,
 Blk.mk n_1 26
 [Value.string fu, Value.string fs, Value.string tu, Value.string ts,
 Value.int IntKind.i64 n, Value.int IntKind.i64 d, Value.string sj,
 Value.slice hp hn hc, Value.string bd]
 2]
 w W →
 W.cell? (Addr.mk n_2 (0 + 7) none) = some (Value.slice p_1 n_4 c_1)) ∧
 ∀ (W : World),
 Loc w.heap.size
 [Blk.mk n_2 26
 [Value.string fuy, Value.string fsy, Value.string tuy, Value.string tsy,
 Value.int IntKind.i64 ny, Value.int IntKind.i64 dy, Value.string sjy,
 Value.slice hpy hny hcy, Value.string bdy]
 2,
 Blk.mk n_1 26
 [Value.string fu, Value.string fs, Value.string tu, Value.string ts,
 Value.int IntKind.i64 n, Value.int IntKind.i64 d, Value.string sj,
 Value.slice hp hn hc, Value.string bd]
 2]
 w W →
 bsp
 (r && r_1 && x == x_4 && x_5 == x_6 && x_7.toList == x_8.toList &&
 x_9.toList == x_10.toList)
 (CallsS Tryd.prog 29 #[Value.slice p n_3 c, Value.slice p_1 n_4 c_1] W
 fun (e : Ending) (w' : World) =>
 ∃ (x : Bool),
 e = Ending.returned (Value.bool x) ∧
 KeptL [n_2, n_1] W w' ∧ R (Ending.returned (Value.bool (true && x))) w')
 (KeptL [n_2, n_1] W W ∧ R (Ending.returned (Value.bool false)) W)
theorem vc_xsame (fu : ByteArray) (fs : ByteArray) (tu : ByteArray) (ts : ByteArray) (n : Int) (d : Int) (sj : ByteArray) (hp : Option Addr) (hn : Nat) (hc : Nat) (bd : ByteArray) (fuy : ByteArray) (fsy : ByteArray) (tuy : ByteArray) (tsy : ByteArray) (ny : Int) (dy : Int) (sjy : ByteArray) (hpy : Option Addr) (hny : Nat) (hcy : Nat) (bdy : ByteArray) (w : World) (R : Ending → World → Prop) (h : VC_xsame fu fs tu ts n d sj hp hn hc bd fuy fsy tuy tsy ny dy sjy hpy hny hcy bdy w R) : Calls Tryd.prog 12 ([Value.agg
    #[Value.string fu, Value.string fs, Value.string tu, Value.string ts, Value.int IntKind.i64 n,
      Value.int IntKind.i64 d, Value.string sj, Value.slice hp hn hc, Value.string bd],
  Value.agg
    #[Value.string fuy, Value.string fsy, Value.string tuy, Value.string tsy, Value.int IntKind.i64 ny,
      Value.int IntKind.i64 dy, Value.string sjy, Value.slice hpy hny hcy,
      Value.string bdy]] : List Value).toArray w R := by
  have e : execR2 { P := Tryd.prog, loops := [], pur := purM, tails := [], joins := [], boxes := [] } Tryd.f12.results.toList R (Tryd.f12.body.getD .skip) (initF [Value.agg
    #[Value.string fu, Value.string fs, Value.string tu, Value.string ts, Value.int IntKind.i64 n,
      Value.int IntKind.i64 d, Value.string sj, Value.slice hp hn hc, Value.string bd],
  Value.agg
    #[Value.string fuy, Value.string fsy, Value.string tuy, Value.string tsy, Value.int IntKind.i64 ny,
      Value.int IntKind.i64 dy, Value.string sjy, Value.slice hpy hny hcy,
      Value.string
        bdy]] (Tryd.f12.ntmps - ([Value.agg
    #[Value.string fu, Value.string fs, Value.string tu, Value.string ts, Value.int IntKind.i64 n,
      Value.int IntKind.i64 d, Value.string sj, Value.slice hp hn hc, Value.string bd],
  Value.agg
    #[Value.string fuy, Value.string fsy, Value.string tuy, Value.string tsy, Value.int IntKind.i64 ny,
      Value.int IntKind.i64 dy, Value.string sjy, Value.slice hpy hny hcy,
      Value.string
        bdy]] : List Value).length)) w = VC_xsame fu fs tu ts n d sj hp hn hc bd fuy fsy tuy tsy ny dy sjy hpy hny hcy bdy w R := by kernel_rfl
  have hb : Tryd.f12.body = some (Tryd.f12.body.getD .skip) := by kernel_rfl
  exact calls_of_exec2' (P := Tryd.prog) (fn := Tryd.f12) (c := Tryd.f12.body.getD .skip) (args := [Value.agg
    #[Value.string fu, Value.string fs, Value.string tu, Value.string ts, Value.int IntKind.i64 n,
      Value.int IntKind.i64 d, Value.string sj, Value.slice hp hn hc, Value.string bd],
  Value.agg
    #[Value.string fuy, Value.string fsy, Value.string tuy, Value.string tsy, Value.int IntKind.i64 ny,
      Value.int IntKind.i64 dy, Value.string sjy, Value.slice hpy hny hcy,
      Value.string bdy]]) (w := w) (R := R) purM_ok Tryd.func12 hb e h

def VC_xpass (fu : ByteArray) (fs : ByteArray) (tu : ByteArray) (ts : ByteArray) (n : Int) (d : Int) (sj : ByteArray) (hp : Option Addr) (hn : Nat) (hc : Nat) (bd : ByteArray) (s : ByteArray) (w : World) (R : Ending → World → Prop) : Prop :=
 ∀ (n_1 n_2 : Nat) (W : World),
 Loc w.heap.size
 [Blk.mk n_2 26
 [Value.string (ByteArray.mk #[]), Value.string (ByteArray.mk #[]), Value.string (ByteArray.mk #[]),
 Value.string (ByteArray.mk #[]), Value.int IntKind.i64 0, Value.int IntKind.i64 0,
 Value.string (ByteArray.mk #[]), Value.slice none 0 0, Value.string (ByteArray.mk #[])]
 2,
 Blk.mk n_1 26
 [Value.string fu, Value.string fs, Value.string tu, Value.string ts, Value.int IntKind.i64 n,
 Value.int IntKind.i64 d, Value.string sj, Value.slice hp hn hc, Value.string bd]
 2]
 w W →
 CallsS Tryd.prog 15
 #[Value.agg
 #[Value.string fu, Value.string fs, Value.string tu, Value.string ts, Value.int IntKind.i64 n,
 Value.int IntKind.i64 d, Value.string sj, Value.slice hp hn hc, Value.string bd]]
 W fun (e : Ending) (w' : World) =>
 ∃ (x : Int),
 e = Ending.returned (Value.int IntKind.i64 x) ∧
 KeptL [n_2, n_1] W w' ∧
 bsp (x != 0)
 (CallsS Tryd.prog 15
 #[Value.agg
 #[Value.string fu, Value.string fs, Value.string tu, Value.string ts, Value.int IntKind.i64 n,
 Value.int IntKind.i64 d, Value.string sj, Value.slice hp hn hc, Value.string bd]]
 w' fun (e : Ending) (w'_1 : World) =>
 ∃ (x : Int),
 e = Ending.returned (Value.int IntKind.i64 x) ∧
 KeptL [n_2, n_1] w' w'_1 ∧
 ∀ (W : World),
 Loc w.heap.size
 [Blk.mk n_2 26
 [Value.string (ByteArray.mk #[]), Value.string (ByteArray.mk #[]), Value.string (ByteArray.mk #[]),
 Value.string (ByteArray.mk #[]), Value.int IntKind.i64 0, Value.int IntKind.i64 0,
 Value.string (ByteArray.mk #[]), Value.slice none 0 0, Value.string (ByteArray.mk #[])]
 (wrM 0),
 Blk.mk n_1 26
 [Value.string fu, Value.string fs, Value.string tu, Value.string ts, Value.int IntKind.i64 n,
 Value.int IntKind.i64 d, Value.string sj, Value.slice hp hn hc, Value.string bd]
 0]
 w'_1 W →
 R
 (Ending.returned
 (Value.tuple
 #[Value.agg
 #[Value.string (ByteArray.mk #[]), Value.string (ByteArray.mk #[]), Value.string (ByteArray.mk #[]),
 Value.string (ByteArray.mk #[]), Value.int IntKind.i64 0, Value.int IntKind.i64 0,
 Value.string (ByteArray.mk #[]), Value.slice none 0 0, Value.string (ByteArray.mk #[])],
 Value.int IntKind.i64 x]))
 W)
 (CallsS Tryd.prog 25 #[Value.string s] w' fun (e : Ending) (w'_1 : World) =>
 ∃ (x : Int),
 e = Ending.returned (Value.int IntKind.i64 x) ∧
 KeptL [n_2, n_1] w' w'_1 ∧
 bsp (x != 0)
 (CallsS Tryd.prog 25 #[Value.string s] w'_1 fun (e : Ending) (w' : World) =>
 ∃ (x : Int),
 e = Ending.returned (Value.int IntKind.i64 x) ∧
 KeptL [n_2, n_1] w'_1 w' ∧
 ∀ (W : World),
 Loc w.heap.size
 [Blk.mk n_2 26
 [Value.string (ByteArray.mk #[]), Value.string (ByteArray.mk #[]), Value.string (ByteArray.mk #[]),
 Value.string (ByteArray.mk #[]), Value.int IntKind.i64 0, Value.int IntKind.i64 0,
 Value.string (ByteArray.mk #[]), Value.slice none 0 0, Value.string (ByteArray.mk #[])]
 (wrM 0),
 Blk.mk n_1 26
 [Value.string fu, Value.string fs, Value.string tu, Value.string ts, Value.int IntKind.i64 n,
 Value.int IntKind.i64 d, Value.string sj, Value.slice hp hn hc, Value.string bd]
 0]
 w' W →
 R
 (Ending.returned
 (Value.tuple
 #[Value.agg
 #[Value.string (ByteArray.mk #[]), Value.string (ByteArray.mk #[]),
 Value.string (ByteArray.mk #[]), Value.string (ByteArray.mk #[]), Value.int IntKind.i64 0,
 Value.int IntKind.i64 0, Value.string (ByteArray.mk #[]), Value.slice none 0 0,
 Value.string (ByteArray.mk #[])],
 Value.int IntKind.i64 x]))
 W)
 (CallsS Tryd.prog 41 #[Value.slice hp hn hc, Value.string s] w'_1 fun (e : Ending) (w' : World) =>
 ∃ (x : Bool),
 e = Ending.returned (Value.bool x) ∧
 KeptL [n_2, n_1] w'_1 w' ∧
 bsp x
 (∀ (W : World),
 Loc w.heap.size
 [Blk.mk n_2 26
 [Value.string (ByteArray.mk #[]), Value.string (ByteArray.mk #[]),
 Value.string (ByteArray.mk #[]), Value.string (ByteArray.mk #[]), Value.int IntKind.i64 0,
 Value.int IntKind.i64 0, Value.string (ByteArray.mk #[]), Value.slice none 0 0,
 Value.string (ByteArray.mk #[])]
 (wrM 0),
 Blk.mk n_1 26
 [Value.string fu, Value.string fs, Value.string tu, Value.string ts, Value.int IntKind.i64 n,
 Value.int IntKind.i64 d, Value.string sj, Value.slice hp hn hc, Value.string bd]
 0]
 w' W →
 R
 (Ending.returned
 (Value.tuple
 #[Value.agg
 #[Value.string (ByteArray.mk #[]), Value.string (ByteArray.mk #[]),
 Value.string (ByteArray.mk #[]), Value.string (ByteArray.mk #[]), Value.int IntKind.i64 0,
 Value.int IntKind.i64 0, Value.string (ByteArray.mk #[]), Value.slice none 0 0,
 Value.string (ByteArray.mk #[])],
 Value.int IntKind.i64 24]))
 W)
 (bsp ((↑hn : Int) == 16)
 (∀ (W : World),
 Loc w.heap.size
 [Blk.mk n_2 26
 [Value.string (ByteArray.mk #[]), Value.string (ByteArray.mk #[]),
 Value.string (ByteArray.mk #[]), Value.string (ByteArray.mk #[]), Value.int IntKind.i64 0,
 Value.int IntKind.i64 0, Value.string (ByteArray.mk #[]), Value.slice none 0 0,
 Value.string (ByteArray.mk #[])]
 (wrM 0),
 Blk.mk n_1 26
 [Value.string fu, Value.string fs, Value.string tu, Value.string ts, Value.int IntKind.i64 n,
 Value.int IntKind.i64 d, Value.string sj, Value.slice hp hn hc, Value.string bd]
 0]
 w' W →
 R
 (Ending.returned
 (Value.tuple
 #[Value.agg
 #[Value.string (ByteArray.mk #[]), Value.string (ByteArray.mk #[]),
 Value.string (ByteArray.mk #[]), Value.string (ByteArray.mk #[]), Value.int IntKind.i64 0,
 Value.int IntKind.i64 0, Value.string (ByteArray.mk #[]), Value.slice none 0 0,
 Value.string (ByteArray.mk #[])],
 Value.int IntKind.i64 9]))
 W)
 (∀ (n_3 : Nat) (W : World),
 Loc w.heap.size
 [Blk.mk n_3 9 [] 2,
 Blk.mk n_2 26
 [Value.string (ByteArray.mk #[]), Value.string (ByteArray.mk #[]),
 Value.string (ByteArray.mk #[]), Value.string (ByteArray.mk #[]), Value.int IntKind.i64 0,
 Value.int IntKind.i64 0, Value.string (ByteArray.mk #[]), Value.slice none 0 0,
 Value.string (ByteArray.mk #[])]
 0,
 Blk.mk n_1 26
 [Value.string fu, Value.string fs, Value.string tu, Value.string ts, Value.int IntKind.i64 n,
 Value.int IntKind.i64 d, Value.string sj, Value.slice hp hn hc, Value.string bd]
 0]
 w' W →
 ∃ (base : Nat),
 ∃ (xs : List Value),
 ∃ (news : List Value),
 W.ownsRow base 9 1 (Value.slice (some (Addr.mk n_3 0 none)) 0 0) 0 xs ∧
 news.length = hn * 1 ∧
 SrcP W hp news ∧
 0 + hn ≤ 9223372036854775807 ∧
 (0 + hn) * 16 ≤ 140737488355328 ∧
 base ≤ W.heap.size ∧
 ∀ (p' : Option Addr) (c' : Nat) (w' : World),
 w'.ownsRow base 9 1 (Value.slice p' (0 + hn) c') (0 + hn) (xs ++ news) →
 W.grownBy w' (Value.slice (some (Addr.mk n_3 0 none)) 0 0).ownBlock →
 (0 + hn ≤ 0 → p' = some (Addr.mk n_3 0 none) ∧ c' = 0) →
 KeptL [n_2, n_1] W w' ∧
 ∀ (n_4 : Nat) (W : World),
 Loc w.heap.size
 [Blk.mk n_4 9 [Value.string s] 2,
 Blk.mk n_2 26
 [Value.string (ByteArray.mk #[]), Value.string (ByteArray.mk #[]),
 Value.string (ByteArray.mk #[]), Value.string (ByteArray.mk #[]),
 Value.int IntKind.i64 0, Value.int IntKind.i64 0,
 Value.string (ByteArray.mk #[]), Value.slice none 0 0,
 Value.string (ByteArray.mk #[])]
 0,
 Blk.mk n_1 26
 [Value.string fu, Value.string fs, Value.string tu, Value.string ts,
 Value.int IntKind.i64 n, Value.int IntKind.i64 d, Value.string sj,
 Value.slice hp hn hc, Value.string bd]
 0]
 w' W →
 ∃ (base : Nat),
 ∃ (xs : List Value),
 W.ownsRow base 9 1 (Value.slice p' (0 + hn) c') (0 + hn) xs ∧
 0 + hn + 1 ≤ 9223372036854775807 ∧
 (0 + hn + 1) * 16 ≤ 140737488355328 ∧
 base ≤ W.heap.size ∧
 ∀ (p'_1 : Option Addr) (c'_1 : Nat) (w' : World),
 w'.ownsRow base 9 1 (Value.slice p'_1 (0 + hn + 1) c'_1) (0 + hn + 1)
 (xs ++ [Value.string s]) →
 W.grownBy w' (Value.slice p' (0 + hn) c').ownBlock →
 (0 + hn + 1 ≤ c' → p'_1 = p' ∧ c'_1 = c') →
 KeptL [n_2, n_1] W w' ∧
 ∀ (W : World),
 Loc w.heap.size
 [Blk.mk n_2 26
 [Value.string fu, Value.string fs, Value.string tu, Value.string ts,
 Value.int IntKind.i64 n, Value.int IntKind.i64 d, Value.string sj,
 Value.slice p'_1 (0 + hn + 1) c'_1, Value.string bd]
 (wrM 0),
 Blk.mk n_1 26
 [Value.string fu, Value.string fs, Value.string tu, Value.string ts,
 Value.int IntKind.i64 n, Value.int IntKind.i64 d, Value.string sj,
 Value.slice p'_1 (0 + hn + 1) c'_1, Value.string bd]
 (wrM 0)]
 w' W →
 R
 (Ending.returned
 (Value.tuple
 #[Value.agg
 #[Value.string fu, Value.string fs, Value.string tu,
 Value.string ts, Value.int IntKind.i64 n,
 Value.int IntKind.i64 d, Value.string sj,
 Value.slice p'_1 (0 + hn + 1) c'_1, Value.string bd],
 Value.int IntKind.i64 0]))
 W))))
theorem vc_xpass (fu : ByteArray) (fs : ByteArray) (tu : ByteArray) (ts : ByteArray) (n : Int) (d : Int) (sj : ByteArray) (hp : Option Addr) (hn : Nat) (hc : Nat) (bd : ByteArray) (s : ByteArray) (w : World) (R : Ending → World → Prop) (h : VC_xpass fu fs tu ts n d sj hp hn hc bd s w R) : Calls Tryd.prog 18 ([Value.agg
    #[Value.string fu, Value.string fs, Value.string tu, Value.string ts, Value.int IntKind.i64 n,
      Value.int IntKind.i64 d, Value.string sj, Value.slice hp hn hc, Value.string bd],
  Value.string s] : List Value).toArray w R := by
  have e : execR2 { P := Tryd.prog, loops := [], pur := purM, tails := [], joins := [], boxes := [] } Tryd.f18.results.toList R (Tryd.f18.body.getD .skip) (initF [Value.agg
    #[Value.string fu, Value.string fs, Value.string tu, Value.string ts, Value.int IntKind.i64 n,
      Value.int IntKind.i64 d, Value.string sj, Value.slice hp hn hc, Value.string bd],
  Value.string
    s] (Tryd.f18.ntmps - ([Value.agg
    #[Value.string fu, Value.string fs, Value.string tu, Value.string ts, Value.int IntKind.i64 n,
      Value.int IntKind.i64 d, Value.string sj, Value.slice hp hn hc, Value.string bd],
  Value.string s] : List Value).length)) w = VC_xpass fu fs tu ts n d sj hp hn hc bd s w R := by kernel_rfl
  have hb : Tryd.f18.body = some (Tryd.f18.body.getD .skip) := by kernel_rfl
  exact calls_of_exec2' (P := Tryd.prog) (fn := Tryd.f18) (c := Tryd.f18.body.getD .skip) (args := [Value.agg
    #[Value.string fu, Value.string fs, Value.string tu, Value.string ts, Value.int IntKind.i64 n,
      Value.int IntKind.i64 d, Value.string sj, Value.slice hp hn hc, Value.string bd],
  Value.string s]) (w := w) (R := R) purM_ok Tryd.func18 hb e h

def VC_xbounce (fu : ByteArray) (fs : ByteArray) (tu : ByteArray) (ts : ByteArray) (n : Int) (d : Int) (sj : ByteArray) (hp : Option Addr) (hn : Nat) (hc : Nat) (bd : ByteArray) (s : ByteArray) (x : Int) (now : Int) (w : World) (R : Ending → World → Prop) : Prop :=
 ∀ (n_1 n_2 : Nat) (W : World),
 Loc w.heap.size
 [Blk.mk n_2 26
 [Value.string (ByteArray.mk #[]), Value.string (ByteArray.mk #[]), Value.string (ByteArray.mk #[]),
 Value.string (ByteArray.mk #[]), Value.int IntKind.i64 0, Value.int IntKind.i64 0,
 Value.string (ByteArray.mk #[]), Value.slice none 0 0, Value.string (ByteArray.mk #[])]
 2,
 Blk.mk n_1 26
 [Value.string fu, Value.string fs, Value.string tu, Value.string ts, Value.int IntKind.i64 n,
 Value.int IntKind.i64 d, Value.string sj, Value.slice hp hn hc, Value.string bd]
 2]
 w W →
 bsp (!fu.toList == [])
 (CallsS Tryd.prog 15
 #[Value.agg
 #[Value.string fu, Value.string fs, Value.string tu, Value.string ts, Value.int IntKind.i64 n,
 Value.int IntKind.i64 d, Value.string sj, Value.slice hp hn hc, Value.string bd]]
 W fun (e : Ending) (w' : World) =>
 ∃ (x_1 : Int),
 e = Ending.returned (Value.int IntKind.i64 x_1) ∧
 KeptL [n_2, n_1] W w' ∧
 bsp (!(false || x_1 != 0))
 (CallsS Tryd.prog 25 #[Value.string s] w' fun (e : Ending) (w'_1 : World) =>
 ∃ (x_2 : Int),
 e = Ending.returned (Value.int IntKind.i64 x_2) ∧
 KeptL [n_2, n_1] w' w'_1 ∧
 bsp (false || x_2 != 0 || !minB now)
 (∀ (W : World),
 Loc w.heap.size
 [Blk.mk n_2 26
 [Value.string (ByteArray.mk #[]), Value.string (ByteArray.mk #[]), Value.string (ByteArray.mk #[]),
 Value.string (ByteArray.mk #[]), Value.int IntKind.i64 0, Value.int IntKind.i64 0,
 Value.string (ByteArray.mk #[]), Value.slice none 0 0, Value.string (ByteArray.mk #[])]
 (wrM 0),
 Blk.mk n_1 26
 [Value.string fu, Value.string fs, Value.string tu, Value.string ts, Value.int IntKind.i64 n,
 Value.int IntKind.i64 d, Value.string sj, Value.slice hp hn hc, Value.string bd]
 0]
 w'_1 W →
 R
 (Ending.returned
 (Value.tuple
 #[Value.agg
 #[Value.string (ByteArray.mk #[]), Value.string (ByteArray.mk #[]), Value.string (ByteArray.mk #[]),
 Value.string (ByteArray.mk #[]), Value.int IntKind.i64 0, Value.int IntKind.i64 0,
 Value.string (ByteArray.mk #[]), Value.slice none 0 0, Value.string (ByteArray.mk #[])],
 Value.bool false]))
 W)
 (∀ (W : World),
 Loc w.heap.size
 [Blk.mk n_2 26
 [Value.string (ByteArray.mk #[]), Value.string (ByteArray.mk #[]), Value.string (ByteArray.mk #[]),
 Value.string (ByteArray.mk #[]), Value.int IntKind.i64 0, Value.int IntKind.i64 0,
 Value.string (ByteArray.mk #[]), Value.slice none 0 0, Value.string (ByteArray.mk #[])]
 0,
 Blk.mk n_1 26
 [Value.string fu, Value.string fs, Value.string tu, Value.string ts, Value.int IntKind.i64 n,
 Value.int IntKind.i64 d, Value.string sj, Value.slice hp hn hc, Value.string bd]
 0]
 w'_1 W →
 ∃ (S : World → Prop),
 S W ∧
 ∃ (x_3 : ByteArray),
 ∃ (x_4 : ByteArray),
 (∀ (w' : World), S w' → AtL w' n_1 0 [Value.string x_3, Value.string x_4]) ∧
 ∃ (x_5 : Int),
 (∀ (w' : World), S w' → w'.cell? (Addr.mk n_1 (0 + 4) none) = some (Value.int IntKind.i64 x_5)) ∧
 ∃ (x_6 : ByteArray),
 ∃ (x_7 : ByteArray),
 (∀ (w' : World), S w' → AtL w' n_1 (0 + 2) [Value.string x_6, Value.string x_7]) ∧
 ∃ (x_8 : ByteArray),
 (∀ (w' : World), S w' → w'.cell? (Addr.mk n_1 (0 + 6) none) = some (Value.string x_8)) ∧
 CallsS Tryd.prog 27 #[Value.agg #[Value.string x_6, Value.string x_7]] W
 fun (e : Ending) (w' : World) =>
 ∃ (x_9 : ByteArray),
 e = Ending.returned (Value.string x_9) ∧
 S w' ∧
 (9223372036854775807 - (↑(x_9.size + (ByteArray.mk #[32]).size) : Int)).NonNeg ∧
 CallsS Tryd.prog 28 #[Value.int IntKind.i64 x] w' fun (e : Ending) (w' : World) =>
 ∃ (x : ByteArray),
 e = Ending.returned (Value.string x) ∧
 S w' ∧
 (9223372036854775807 -
 (↑((x_9 ++ ByteArray.mk #[32]).size + x.size) : Int)).NonNeg ∧
 (9223372036854775807 -
 (↑((x_9 ++ ByteArray.mk #[32] ++ x).size + (ByteArray.mk #[10]).size) :
 Int)).NonNeg ∧
 (9223372036854775807 -
 (↑((x_9 ++ ByteArray.mk #[32] ++ x ++ ByteArray.mk #[10]).size + x_8.size) :
 Int)).NonNeg ∧
 (9223372036854775807 -
 (↑((x_9 ++ ByteArray.mk #[32] ++ x ++ ByteArray.mk #[10] ++ x_8).size +
 (ByteArray.mk #[10]).size) :
 Int)).NonNeg ∧
 WrL w' n_2 0 9 ∧
 ∀ (w1 : World),
 PutB w' n_2 0
 [Value.string (ByteArray.mk #[]), Value.string s, Value.string x_3,
 Value.string x_4, Value.int IntKind.i64 x_5, Value.int IntKind.i64 now,
 Value.string
 (ByteArray.mk
 #[78, 111, 116, 32, 100, 101, 108, 105, 118, 101, 114, 101, 100]),
 Value.slice none 0 0,
 Value.string
 (x_9 ++ ByteArray.mk #[32] ++ x ++ ByteArray.mk #[10] ++ x_8 ++
 ByteArray.mk #[10])]
 w1 →
 KeptL [n_1] W w1 ∧
 ∃ (x : ByteArray),
 ∃ (x_10 : ByteArray),
 ∃ (x_11 : ByteArray),
 ∃ (x_12 : ByteArray),
 ∃ (x_13 : Int),
 ∃ (x_14 : Int),
 ∃ (x_15 : ByteArray),
 ∃ (p : Option Addr),
 ∃ (n : Nat),
 ∃ (c : Nat),
 ∃ (x_16 : ByteArray),
 AtL w1 n_2 0
 [Value.string x, Value.string x_10, Value.string x_11,
 Value.string x_12, Value.int IntKind.i64 x_13,
 Value.int IntKind.i64 x_14, Value.string x_15,
 Value.slice p n c, Value.string x_16] ∧
 R
 (Ending.returned
 (Value.tuple
 #[Value.agg
 #[Value.string x, Value.string x_10, Value.string x_11,
 Value.string x_12, Value.int IntKind.i64 x_13,
 Value.int IntKind.i64 x_14, Value.string x_15,
 Value.slice p n c, Value.string x_16],
 Value.bool true]))
 w1))
 (KeptL [n_2, n_1] w' w' ∧
 ∀ (W : World),
 Loc w.heap.size
 [Blk.mk n_2 26
 [Value.string (ByteArray.mk #[]), Value.string (ByteArray.mk #[]), Value.string (ByteArray.mk #[]),
 Value.string (ByteArray.mk #[]), Value.int IntKind.i64 0, Value.int IntKind.i64 0,
 Value.string (ByteArray.mk #[]), Value.slice none 0 0, Value.string (ByteArray.mk #[])]
 (wrM 0),
 Blk.mk n_1 26
 [Value.string fu, Value.string fs, Value.string tu, Value.string ts, Value.int IntKind.i64 n,
 Value.int IntKind.i64 d, Value.string sj, Value.slice hp hn hc, Value.string bd]
 0]
 w' W →
 R
 (Ending.returned
 (Value.tuple
 #[Value.agg
 #[Value.string (ByteArray.mk #[]), Value.string (ByteArray.mk #[]), Value.string (ByteArray.mk #[]),
 Value.string (ByteArray.mk #[]), Value.int IntKind.i64 0, Value.int IntKind.i64 0,
 Value.string (ByteArray.mk #[]), Value.slice none 0 0, Value.string (ByteArray.mk #[])],
 Value.bool false]))
 W))
 (KeptL [n_2, n_1] W W ∧
 KeptL [n_2, n_1] W W ∧
 ∀ (W_1 : World),
 Loc w.heap.size
 [Blk.mk n_2 26
 [Value.string (ByteArray.mk #[]), Value.string (ByteArray.mk #[]), Value.string (ByteArray.mk #[]),
 Value.string (ByteArray.mk #[]), Value.int IntKind.i64 0, Value.int IntKind.i64 0,
 Value.string (ByteArray.mk #[]), Value.slice none 0 0, Value.string (ByteArray.mk #[])]
 (wrM 0),
 Blk.mk n_1 26
 [Value.string fu, Value.string fs, Value.string tu, Value.string ts, Value.int IntKind.i64 n,
 Value.int IntKind.i64 d, Value.string sj, Value.slice hp hn hc, Value.string bd]
 0]
 W W_1 →
 R
 (Ending.returned
 (Value.tuple
 #[Value.agg
 #[Value.string (ByteArray.mk #[]), Value.string (ByteArray.mk #[]), Value.string (ByteArray.mk #[]),
 Value.string (ByteArray.mk #[]), Value.int IntKind.i64 0, Value.int IntKind.i64 0,
 Value.string (ByteArray.mk #[]), Value.slice none 0 0, Value.string (ByteArray.mk #[])],
 Value.bool false]))
 W_1)
theorem vc_xbounce (fu : ByteArray) (fs : ByteArray) (tu : ByteArray) (ts : ByteArray) (n : Int) (d : Int) (sj : ByteArray) (hp : Option Addr) (hn : Nat) (hc : Nat) (bd : ByteArray) (s : ByteArray) (x : Int) (now : Int) (w : World) (R : Ending → World → Prop) (h : VC_xbounce fu fs tu ts n d sj hp hn hc bd s x now w R) : Calls Tryd.prog 10 ([Value.agg
    #[Value.string fu, Value.string fs, Value.string tu, Value.string ts, Value.int IntKind.i64 n,
      Value.int IntKind.i64 d, Value.string sj, Value.slice hp hn hc, Value.string bd],
  Value.string s, Value.int IntKind.i64 x, Value.int IntKind.i64 now] : List Value).toArray w R := by
  have e : execR2 { P := Tryd.prog, loops := [], pur := purM, tails := [(3, 9)], joins := [], boxes := [] } Tryd.f10.results.toList R (Tryd.f10.body.getD .skip) (initF [Value.agg
    #[Value.string fu, Value.string fs, Value.string tu, Value.string ts, Value.int IntKind.i64 n,
      Value.int IntKind.i64 d, Value.string sj, Value.slice hp hn hc, Value.string bd],
  Value.string s, Value.int IntKind.i64 x,
  Value.int IntKind.i64
    now] (Tryd.f10.ntmps - ([Value.agg
    #[Value.string fu, Value.string fs, Value.string tu, Value.string ts, Value.int IntKind.i64 n,
      Value.int IntKind.i64 d, Value.string sj, Value.slice hp hn hc, Value.string bd],
  Value.string s, Value.int IntKind.i64 x,
  Value.int IntKind.i64
    now] : List Value).length)) w = VC_xbounce fu fs tu ts n d sj hp hn hc bd s x now w R := by kernel_rfl
  have hb : Tryd.f10.body = some (Tryd.f10.body.getD .skip) := by kernel_rfl
  exact calls_of_exec2' (P := Tryd.prog) (fn := Tryd.f10) (c := Tryd.f10.body.getD .skip) (args := [Value.agg
    #[Value.string fu, Value.string fs, Value.string tu, Value.string ts, Value.int IntKind.i64 n,
      Value.int IntKind.i64 d, Value.string sj, Value.slice hp hn hc, Value.string bd],
  Value.string s, Value.int IntKind.i64 x, Value.int IntKind.i64 now]) (w := w) (R := R) purM_ok Tryd.func10 hb e h

end Go.Proofs.YtmlmdljnfokebaaDoor
