/- Chapter 49: Equal; MailChecks on worlds. No condition but the sizes that a reading gives, and the table of powers of ten. (Printed by mkchk.py.) -/
import Derived.Test.YtmlmdljnfokebaaDoorZ11
namespace Go.Proofs.YtmlmdljnfokebaaDoor
open Go.RowKit Go.Maps

theorem mequal_any (a b : Ml) (p : Option Addr) (c : Nat) (q : Option Addr) (d : Nat) (w : World) (hp : StrP w p a.hops) (hq : StrP w q b.hops) (hl : a.hops.length ≤ 1099511627776) (za : SzM a) (zb : SzM b) :
    Calls Tryd.prog 16 #[mxA a p c, mxA b q d] w fun e w' => e = .returned (.bool (eqM a b)) ∧ K0 w w' := by
  refine vc_mequal a.fu a.fs a.tu a.ts a.n a.d a.sj p a.hops.length c a.bd b.fu b.fs b.tu b.ts b.n b.d b.sj q b.hops.length d b.bd w _ (fun n1 n2 => ?_)
  refine ⟨_, adEq _ _ _ _ za.1 za.2.1 zb.1 zb.2.1, a.tu, a.ts, gimp_intro fun _ W hW => AtL_block (hW.cells 1 rfl) rfl, b.tu, b.ts, gimp_intro fun _ W hW => AtL_block (hW.cells 0 rfl) rfl, _, gimp_intro fun _ => adEq _ _ _ _ za.2.2.1 za.2.2.2 zb.2.2.1 zb.2.2.2, ?_⟩
  refine ⟨a.n, gimp_intro fun _ W hW => cell_at (hW.cells 1 rfl) rfl, b.n, gimp_intro fun _ W hW => cell_at (hW.cells 0 rfl) rfl, a.d, gimp_intro fun _ W hW => cell_at (hW.cells 1 rfl) rfl, b.d, gimp_intro fun _ W hW => cell_at (hW.cells 0 rfl) rfl, ?_⟩
  refine ⟨a.sj, gimp_intro fun _ W hW => cell_at (hW.cells 1 rfl) rfl, b.sj, gimp_intro fun _ W hW => cell_at (hW.cells 0 rfl) rfl, ?_⟩
  refine ⟨p, a.hops.length, c, gimp_intro fun _ W hW => cell_at (hW.cells 1 rfl) rfl, q, b.hops.length, d, gimp_intro fun _ W hW => cell_at (hW.cells 0 rfl) rfl, fun W hW => ?_⟩
  have kW : K0 w W := hW.kk rfl
  have hca := hW.cells 1 rfl
  have hcb := hW.cells 0 rfl
  refine bsp_intro (fun h => ?_) (fun h => ?_)
  · refine ⟨(sequal_any a.hops b.hops p c q d W (hp.k0 kW) (hq.k0 kW) hl).mono fun e w1 ⟨he, k1⟩ => ⟨_, he, .of_k0 k1, a.bd, gimp_intro fun _ => cell_at (k1.blk hca (fun h => h)) rfl, b.bd, gimp_intro fun _ => cell_at (k1.blk hcb (fun h => h)) rfl, ?_, kW.trans k1⟩⟩
    have e1 : eqM a b = (true && decide (a.hops = b.hops) && a.bd.toList == b.bd.toList) := by rw [← h]; rfl
    rw [e1]
  · refine ⟨.refl _ _, a.bd, trivial, b.bd, trivial, ?_, kW⟩
    have e1 : eqM a b = false := by
      unfold eqM
      generalize decide (a.hops = b.hops) = z
      generalize (a.bd.toList == b.bd.toList) = y
      rw [h]; rfl
    rw [e1]; rfl
theorem K0.blk_ {w w' : World} (h : K0 w w') {n : Nat} {x : Obj} (hx : w.heap[n]? = some x) : w'.heap[n]? = some x := h.blk hx (fun h => h)
set_option maxHeartbeats 4000000 in
theorem lchecks_any (a b : Ml) (p : Option Addr) (c : Nat) (q : Option Addr) (d : Nat) (w : World) (hRa : StrP w p a.hops) (hRb : StrP w q b.hops) (hla : a.hops.length ≤ 4611686018427387904) (hlb : b.hops.length ≤ 4611686018427387904) (za : SzM a) (zb : SzM b) (hT : GT w) :
    Calls Tryd.prog 4 #[mxA a p c, mxA b q d] w fun e w' => e = .returned (.bool true) ∧ K0 w w' := by
  refine vc_lchecks a.fu a.fs a.tu a.ts a.n a.d a.sj p a.hops.length c a.bd b.fu b.fs b.tu b.ts b.n b.d b.sj q b.hops.length d b.bd w _ (fun n1 n2 W hW => ?_)
  have kW : K0 w W := hW.kk rfl
  have hc1 := hW.cells 1 rfl
  have hc2 := hW.cells 0 rfl
  have hA := fun (wx : World) (k : K0 W wx) => to_any a p c wx (hRa.k0 (kW.trans k)) hla
  have hB := fun (wx : World) (k : K0 W wx) => to_any b q d wx (hRb.k0 (kW.trans k)) hlb
  have zx : SzM (toM a) := za
  have zy : SzM (toM b) := zb
  have lx : (toM a).hops.length ≤ 20 := by show (a.hops.take 20).length ≤ 20; rw [List.length_take]; omega
  have ly : (toM b).hops.length ≤ 20 := by show (b.hops.take 20).length ≤ 20; rw [List.length_take]; omega
  have bx : (toM a).bd.size ≤ 33000 := by show (a.bd.extract 0 (min a.bd.size 33000)).size ≤ 33000; rw [ByteArray.size_extract]; omega
  refine ⟨fun wx => K0 W wx, .refl _ _, _, _, _, _, _, _, _, _, _, _, _, fun wx k => AtL_block (k.blk hc1 (fun h => h)) rfl, _, _, _, _, _, _, _, _, _, _, _, fun wx k => AtL_block (k.blk hc2 (fun h => h)) rfl, ?_⟩
  have kc : K0 W W := .refl _ _
  refine ⟨?_, ?_, ?_⟩
  · refine ⟨(hA _ kc).mono fun e w1 ⟨⟨qa, da, he, ha⟩, kk⟩ => ⟨_, _, _, _, _, _, _, _, _, _, _, he, kc.trans kk, ?_⟩⟩
    have ha := own_base ha kc.size
    have kc := kc.trans kk
    refine ⟨?_, ?_, ?_⟩
    · refine ⟨(hB _ kc).mono fun e w2 ⟨⟨qb, db, he, hb⟩, kk⟩ => ⟨_, _, _, _, _, _, _, _, _, _, _, he, ?_⟩⟩
      have hb := own_base hb kc.size
      have ha := owns_kp ha kk (fun _ _ h => h)
      have kc := kc.trans kk
      refine ⟨?_, ?_⟩
      · refine fun nx w3 hn => ⟨kc.trans (hn.kp _), ?_⟩
        have hx := hn.block
        have gx := Nat.le_trans kc.size hn.ge
        have ha := owns_kp ha (hn.kp (fun _ => False)) (fun _ _ h => h)
        have hb := owns_kp hb (hn.kp (fun _ => False)) (fun _ _ h => h)
        have kc := kc.trans (hn.kp (fun _ => False))
        refine fun ny w4 hn => ⟨kc.trans (hn.kp _), ?_⟩
        have hy := hn.block
        have gy := Nat.le_trans kc.size hn.ge
        have hne : nx ≠ ny := by have h1 := block_lt hx; have h2 := hn.ge; omega
        have ha := owns_kp ha (hn.kp (fun _ => False)) (fun _ _ h => h)
        have hb := owns_kp hb (hn.kp (fun _ => False)) (fun _ _ h => h)
        have hx := K0.blk_ (hn.kp (fun _ => False)) hx
        have kc := kc.trans (hn.kp (fun _ => False))
        refine ⟨WrL_block hx (Nat.le_refl 9), fun wp hp => ?_⟩
        have ha := owns_kp ha hp.kp (fun k hk e => own_not ha hx rfl (by rw [hk, e]))
        have hb := owns_kp hb hp.kp (fun k hk e => own_not hb hx rfl (by rw [hk, e]))
        have hy := hp.blk hy (fun e => hne e.symm)
        have hx := hp.full hx rfl
        have kc := put_k0 kc hp gx
        refine ⟨WrL_block hy (Nat.le_refl 9), fun wq hp => ?_⟩
        have ha := owns_kp ha hp.kp (fun k hk e => own_not ha hy rfl (by rw [hk, e]))
        have hb := owns_kp hb hp.kp (fun k hk e => own_not hb hy rfl (by rw [hk, e]))
        have hx := hp.blk hx hne
        have hy := hp.full hy rfl
        have kc := put_k0 kc hp gy
        clear hp
        refine ⟨.of_k0 kc, ?_⟩
        intro W8 hW8
        have k8 : K0 wq W8 := hW8.kk rfl
        have kc8 := kc.trans k8
        have hx := K0.blk_ k8 hx
        have hy := K0.blk_ k8 hy
        have hra := (strP_own ha).k0 k8
        have hrb := (strP_own hb).k0 k8
        have hda := own_le ha
        refine ⟨fun wx => K0 W8 wx, .refl _ _, ⟨(known_any W8 (hT.k0 (kW.trans kc8))).mono fun e w9 ⟨he, k9⟩ => ⟨_, he, k9, _, _, _, _, _, _, _, _, _, _, _, gimp_intro fun _ wx k => AtL_block (K0.blk_ k hx) rfl, _, _, _, _, _, _, _, _, _, _, _, gimp_intro fun _ wx k => AtL_block (K0.blk_ k hx) rfl, bsp_intro (fun _ => ?_) (fun h => by cases h)⟩⟩⟩
        refine ⟨(mcheck_any (toM a) qa da w9 (hra.k0 k9) hda (by omega) (by omega)).mono fun e w10 ⟨he, k10⟩ => ⟨_, he, k9.trans k10, ?_⟩⟩
        have k810 := k9.trans k10
        refine ⟨(of_any (toM a) qa da w10 (hra.k0 k810) (by omega)).mono fun e w11 ⟨⟨q2, d2, he, ho2⟩, k11⟩ => ⟨_, _, _, _, _, _, _, _, _, _, _, he, k810.trans k11, ?_⟩⟩
        have k811 := k810.trans k11
        refine ⟨(xcheck_any (toM a) q2 d2 w11 (strP_own ho2) (own_le ho2) ⟨zx.1, zx.2.2.1⟩ (by omega)).mono fun e w12 ⟨he, k12⟩ => ⟨_, he, k811.trans k12, _, _, _, _, _, _, _, _, _, _, _, gimp_intro fun _ wx k => AtL_block (K0.blk_ k hx) rfl, _, _, _, _, _, _, _, _, _, _, _, gimp_intro fun _ wx k => AtL_block (K0.blk_ k hy) rfl, _, _, _, _, _, _, _, _, _, _, _, gimp_intro fun _ wx k => AtL_block (K0.blk_ k hx) rfl, _, _, _, _, _, _, _, _, _, _, _, gimp_intro fun _ wx k => AtL_block (K0.blk_ k hy) rfl, bsp_intro (fun _ => ?_) (fun h => by simp at h)⟩⟩
        have k812 := k811.trans k12
        refine ⟨(mequal_any (toM a) (toM b) qa da qb db w12 (hra.k0 k812) (hrb.k0 k812) (by omega) zx zy).mono fun e w13 ⟨he, k13⟩ => ⟨_, he, k812.trans k13, ?_⟩⟩
        have k813 := k812.trans k13
        refine ⟨(of_any (toM a) qa da w13 (hra.k0 k813) (by omega)).mono fun e w14 ⟨⟨q3, d3, he, ho3⟩, k14⟩ => ⟨_, _, _, _, _, _, _, _, _, _, _, he, k813.trans k14, ?_⟩⟩
        have k814 := k813.trans k14
        refine ⟨(of_any (toM b) qb db w14 (hrb.k0 k814) (by omega)).mono fun e w15 ⟨⟨q4, d4, he, ho4⟩, k15⟩ => ⟨_, _, _, _, _, _, _, _, _, _, _, he, k814.trans k15, ?_⟩⟩
        have k815 := k814.trans k15
        refine ⟨(xsame_any (toM a) (toM b) q3 d3 q4 d4 w15 ((strP_own ho3).k0 k15) (strP_own ho4) (by omega) zx zy).mono fun e w16 ⟨he, k16⟩ => ⟨_, he, k815.trans k16, _, _, _, _, _, _, _, _, _, _, _, gimp_intro fun _ wx k => AtL_block (K0.blk_ k hx) rfl, _, _, _, _, _, _, _, _, _, _, _, gimp_intro fun _ wx k => AtL_block (K0.blk_ (kc8.trans k) hc1) rfl, bsp_intro (fun _ => ?_) (fun h => by simp at h)⟩⟩
        have k816 := k815.trans k16
        refine ⟨(hA w16 (kc8.trans k816)).mono fun e w17 ⟨⟨q5, d5, he, ho5⟩, k17⟩ => ⟨_, _, _, _, _, _, _, _, _, _, _, he, k816.trans k17, ?_⟩⟩
        have k817 := k816.trans k17
        refine ⟨(mequal_any (toM a) (toM a) qa da q5 d5 w17 (hra.k0 k817) (strP_own ho5) (by omega) zx zx).mono fun e w18 ⟨he, k18⟩ => ⟨_, he, .of_k0 (k817.trans k18), ?_, kW.trans (kc8.trans (k817.trans k18))⟩⟩
        rw [eqM_self]; rfl
      · refine fun ny w3 hn => ⟨kc.trans (hn.kp _), ?_⟩
        have hy := hn.block
        have gy := Nat.le_trans kc.size hn.ge
        have ha := owns_kp ha (hn.kp (fun _ => False)) (fun _ _ h => h)
        have hb := owns_kp hb (hn.kp (fun _ => False)) (fun _ _ h => h)
        have kc := kc.trans (hn.kp (fun _ => False))
        refine fun nx w4 hn => ⟨kc.trans (hn.kp _), ?_⟩
        have hx := hn.block
        have gx := Nat.le_trans kc.size hn.ge
        have hne : nx ≠ ny := by have h1 := block_lt hy; have h2 := hn.ge; omega
        have ha := owns_kp ha (hn.kp (fun _ => False)) (fun _ _ h => h)
        have hb := owns_kp hb (hn.kp (fun _ => False)) (fun _ _ h => h)
        have hy := K0.blk_ (hn.kp (fun _ => False)) hy
        have kc := kc.trans (hn.kp (fun _ => False))
        refine ⟨WrL_block hx (Nat.le_refl 9), fun wp hp => ?_⟩
        have ha := owns_kp ha hp.kp (fun k hk e => own_not ha hx rfl (by rw [hk, e]))
        have hb := owns_kp hb hp.kp (fun k hk e => own_not hb hx rfl (by rw [hk, e]))
        have hy := hp.blk hy (fun e => hne e.symm)
        have hx := hp.full hx rfl
        have kc := put_k0 kc hp gx
        refine ⟨WrL_block hy (Nat.le_refl 9), fun wq hp => ?_⟩
        have ha := owns_kp ha hp.kp (fun k hk e => own_not ha hy rfl (by rw [hk, e]))
        have hb := owns_kp hb hp.kp (fun k hk e => own_not hb hy rfl (by rw [hk, e]))
        have hx := hp.blk hx hne
        have hy := hp.full hy rfl
        have kc := put_k0 kc hp gy
        clear hp
        refine ⟨.of_k0 kc, ?_⟩
        intro W8 hW8
        have k8 : K0 wq W8 := hW8.kk rfl
        have kc8 := kc.trans k8
        have hx := K0.blk_ k8 hx
        have hy := K0.blk_ k8 hy
        have hra := (strP_own ha).k0 k8
        have hrb := (strP_own hb).k0 k8
        have hda := own_le ha
        refine ⟨fun wx => K0 W8 wx, .refl _ _, ⟨(known_any W8 (hT.k0 (kW.trans kc8))).mono fun e w9 ⟨he, k9⟩ => ⟨_, he, k9, _, _, _, _, _, _, _, _, _, _, _, gimp_intro fun _ wx k => AtL_block (K0.blk_ k hx) rfl, _, _, _, _, _, _, _, _, _, _, _, gimp_intro fun _ wx k => AtL_block (K0.blk_ k hx) rfl, bsp_intro (fun _ => ?_) (fun h => by cases h)⟩⟩⟩
        refine ⟨(mcheck_any (toM a) qa da w9 (hra.k0 k9) hda (by omega) (by omega)).mono fun e w10 ⟨he, k10⟩ => ⟨_, he, k9.trans k10, ?_⟩⟩
        have k810 := k9.trans k10
        refine ⟨(of_any (toM a) qa da w10 (hra.k0 k810) (by omega)).mono fun e w11 ⟨⟨q2, d2, he, ho2⟩, k11⟩ => ⟨_, _, _, _, _, _, _, _, _, _, _, he, k810.trans k11, ?_⟩⟩
        have k811 := k810.trans k11
        refine ⟨(xcheck_any (toM a) q2 d2 w11 (strP_own ho2) (own_le ho2) ⟨zx.1, zx.2.2.1⟩ (by omega)).mono fun e w12 ⟨he, k12⟩ => ⟨_, he, k811.trans k12, _, _, _, _, _, _, _, _, _, _, _, gimp_intro fun _ wx k => AtL_block (K0.blk_ k hx) rfl, _, _, _, _, _, _, _, _, _, _, _, gimp_intro fun _ wx k => AtL_block (K0.blk_ k hy) rfl, _, _, _, _, _, _, _, _, _, _, _, gimp_intro fun _ wx k => AtL_block (K0.blk_ k hx) rfl, _, _, _, _, _, _, _, _, _, _, _, gimp_intro fun _ wx k => AtL_block (K0.blk_ k hy) rfl, bsp_intro (fun _ => ?_) (fun h => by simp at h)⟩⟩
        have k812 := k811.trans k12
        refine ⟨(mequal_any (toM a) (toM b) qa da qb db w12 (hra.k0 k812) (hrb.k0 k812) (by omega) zx zy).mono fun e w13 ⟨he, k13⟩ => ⟨_, he, k812.trans k13, ?_⟩⟩
        have k813 := k812.trans k13
        refine ⟨(of_any (toM a) qa da w13 (hra.k0 k813) (by omega)).mono fun e w14 ⟨⟨q3, d3, he, ho3⟩, k14⟩ => ⟨_, _, _, _, _, _, _, _, _, _, _, he, k813.trans k14, ?_⟩⟩
        have k814 := k813.trans k14
        refine ⟨(of_any (toM b) qb db w14 (hrb.k0 k814) (by omega)).mono fun e w15 ⟨⟨q4, d4, he, ho4⟩, k15⟩ => ⟨_, _, _, _, _, _, _, _, _, _, _, he, k814.trans k15, ?_⟩⟩
        have k815 := k814.trans k15
        refine ⟨(xsame_any (toM a) (toM b) q3 d3 q4 d4 w15 ((strP_own ho3).k0 k15) (strP_own ho4) (by omega) zx zy).mono fun e w16 ⟨he, k16⟩ => ⟨_, he, k815.trans k16, _, _, _, _, _, _, _, _, _, _, _, gimp_intro fun _ wx k => AtL_block (K0.blk_ k hx) rfl, _, _, _, _, _, _, _, _, _, _, _, gimp_intro fun _ wx k => AtL_block (K0.blk_ (kc8.trans k) hc1) rfl, bsp_intro (fun _ => ?_) (fun h => by simp at h)⟩⟩
        have k816 := k815.trans k16
        refine ⟨(hA w16 (kc8.trans k816)).mono fun e w17 ⟨⟨q5, d5, he, ho5⟩, k17⟩ => ⟨_, _, _, _, _, _, _, _, _, _, _, he, k816.trans k17, ?_⟩⟩
        have k817 := k816.trans k17
        refine ⟨(mequal_any (toM a) (toM a) qa da q5 d5 w17 (hra.k0 k817) (strP_own ho5) (by omega) zx zx).mono fun e w18 ⟨he, k18⟩ => ⟨_, he, .of_k0 (k817.trans k18), ?_, kW.trans (kc8.trans (k817.trans k18))⟩⟩
        rw [eqM_self]; rfl
    · refine fun nx w2 hn => ⟨kc.trans (hn.kp _), ?_⟩
      have hx := hn.block
      have gx := Nat.le_trans kc.size hn.ge
      have ha := owns_kp ha (hn.kp (fun _ => False)) (fun _ _ h => h)
      have kc := kc.trans (hn.kp (fun _ => False))
      refine ⟨?_, ?_⟩
      · refine ⟨(hB _ kc).mono fun e w3 ⟨⟨qb, db, he, hb⟩, kk⟩ => ⟨_, _, _, _, _, _, _, _, _, _, _, he, ?_⟩⟩
        have hb := own_base hb kc.size
        have ha := owns_kp ha kk (fun _ _ h => h)
        have hx := K0.blk_ kk hx
        have kc := kc.trans kk
        refine fun ny w4 hn => ⟨kc.trans (hn.kp _), ?_⟩
        have hy := hn.block
        have gy := Nat.le_trans kc.size hn.ge
        have hne : nx ≠ ny := by have h1 := block_lt hx; have h2 := hn.ge; omega
        have ha := owns_kp ha (hn.kp (fun _ => False)) (fun _ _ h => h)
        have hb := owns_kp hb (hn.kp (fun _ => False)) (fun _ _ h => h)
        have hx := K0.blk_ (hn.kp (fun _ => False)) hx
        have kc := kc.trans (hn.kp (fun _ => False))
        refine ⟨WrL_block hx (Nat.le_refl 9), fun wp hp => ?_⟩
        have ha := owns_kp ha hp.kp (fun k hk e => own_not ha hx rfl (by rw [hk, e]))
        have hb := owns_kp hb hp.kp (fun k hk e => own_not hb hx rfl (by rw [hk, e]))
        have hy := hp.blk hy (fun e => hne e.symm)
        have hx := hp.full hx rfl
        have kc := put_k0 kc hp gx
        refine ⟨WrL_block hy (Nat.le_refl 9), fun wq hp => ?_⟩
        have ha := owns_kp ha hp.kp (fun k hk e => own_not ha hy rfl (by rw [hk, e]))
        have hb := owns_kp hb hp.kp (fun k hk e => own_not hb hy rfl (by rw [hk, e]))
        have hx := hp.blk hx hne
        have hy := hp.full hy rfl
        have kc := put_k0 kc hp gy
        clear hp
        refine ⟨.of_k0 kc, ?_⟩
        intro W8 hW8
        have k8 : K0 wq W8 := hW8.kk rfl
        have kc8 := kc.trans k8
        have hx := K0.blk_ k8 hx
        have hy := K0.blk_ k8 hy
        have hra := (strP_own ha).k0 k8
        have hrb := (strP_own hb).k0 k8
        have hda := own_le ha
        refine ⟨fun wx => K0 W8 wx, .refl _ _, ⟨(known_any W8 (hT.k0 (kW.trans kc8))).mono fun e w9 ⟨he, k9⟩ => ⟨_, he, k9, _, _, _, _, _, _, _, _, _, _, _, gimp_intro fun _ wx k => AtL_block (K0.blk_ k hx) rfl, _, _, _, _, _, _, _, _, _, _, _, gimp_intro fun _ wx k => AtL_block (K0.blk_ k hx) rfl, bsp_intro (fun _ => ?_) (fun h => by cases h)⟩⟩⟩
        refine ⟨(mcheck_any (toM a) qa da w9 (hra.k0 k9) hda (by omega) (by omega)).mono fun e w10 ⟨he, k10⟩ => ⟨_, he, k9.trans k10, ?_⟩⟩
        have k810 := k9.trans k10
        refine ⟨(of_any (toM a) qa da w10 (hra.k0 k810) (by omega)).mono fun e w11 ⟨⟨q2, d2, he, ho2⟩, k11⟩ => ⟨_, _, _, _, _, _, _, _, _, _, _, he, k810.trans k11, ?_⟩⟩
        have k811 := k810.trans k11
        refine ⟨(xcheck_any (toM a) q2 d2 w11 (strP_own ho2) (own_le ho2) ⟨zx.1, zx.2.2.1⟩ (by omega)).mono fun e w12 ⟨he, k12⟩ => ⟨_, he, k811.trans k12, _, _, _, _, _, _, _, _, _, _, _, gimp_intro fun _ wx k => AtL_block (K0.blk_ k hx) rfl, _, _, _, _, _, _, _, _, _, _, _, gimp_intro fun _ wx k => AtL_block (K0.blk_ k hy) rfl, _, _, _, _, _, _, _, _, _, _, _, gimp_intro fun _ wx k => AtL_block (K0.blk_ k hx) rfl, _, _, _, _, _, _, _, _, _, _, _, gimp_intro fun _ wx k => AtL_block (K0.blk_ k hy) rfl, bsp_intro (fun _ => ?_) (fun h => by simp at h)⟩⟩
        have k812 := k811.trans k12
        refine ⟨(mequal_any (toM a) (toM b) qa da qb db w12 (hra.k0 k812) (hrb.k0 k812) (by omega) zx zy).mono fun e w13 ⟨he, k13⟩ => ⟨_, he, k812.trans k13, ?_⟩⟩
        have k813 := k812.trans k13
        refine ⟨(of_any (toM a) qa da w13 (hra.k0 k813) (by omega)).mono fun e w14 ⟨⟨q3, d3, he, ho3⟩, k14⟩ => ⟨_, _, _, _, _, _, _, _, _, _, _, he, k813.trans k14, ?_⟩⟩
        have k814 := k813.trans k14
        refine ⟨(of_any (toM b) qb db w14 (hrb.k0 k814) (by omega)).mono fun e w15 ⟨⟨q4, d4, he, ho4⟩, k15⟩ => ⟨_, _, _, _, _, _, _, _, _, _, _, he, k814.trans k15, ?_⟩⟩
        have k815 := k814.trans k15
        refine ⟨(xsame_any (toM a) (toM b) q3 d3 q4 d4 w15 ((strP_own ho3).k0 k15) (strP_own ho4) (by omega) zx zy).mono fun e w16 ⟨he, k16⟩ => ⟨_, he, k815.trans k16, _, _, _, _, _, _, _, _, _, _, _, gimp_intro fun _ wx k => AtL_block (K0.blk_ k hx) rfl, _, _, _, _, _, _, _, _, _, _, _, gimp_intro fun _ wx k => AtL_block (K0.blk_ (kc8.trans k) hc1) rfl, bsp_intro (fun _ => ?_) (fun h => by simp at h)⟩⟩
        have k816 := k815.trans k16
        refine ⟨(hA w16 (kc8.trans k816)).mono fun e w17 ⟨⟨q5, d5, he, ho5⟩, k17⟩ => ⟨_, _, _, _, _, _, _, _, _, _, _, he, k816.trans k17, ?_⟩⟩
        have k817 := k816.trans k17
        refine ⟨(mequal_any (toM a) (toM a) qa da q5 d5 w17 (hra.k0 k817) (strP_own ho5) (by omega) zx zx).mono fun e w18 ⟨he, k18⟩ => ⟨_, he, .of_k0 (k817.trans k18), ?_, kW.trans (kc8.trans (k817.trans k18))⟩⟩
        rw [eqM_self]; rfl
      · refine fun ny w3 hn => ⟨kc.trans (hn.kp _), ?_⟩
        have hy := hn.block
        have gy := Nat.le_trans kc.size hn.ge
        have hne : nx ≠ ny := by have h1 := block_lt hx; have h2 := hn.ge; omega
        have ha := owns_kp ha (hn.kp (fun _ => False)) (fun _ _ h => h)
        have hx := K0.blk_ (hn.kp (fun _ => False)) hx
        have kc := kc.trans (hn.kp (fun _ => False))
        refine ⟨(hB _ kc).mono fun e w4 ⟨⟨qb, db, he, hb⟩, kk⟩ => ⟨_, _, _, _, _, _, _, _, _, _, _, he, ?_⟩⟩
        have hb := own_base hb kc.size
        have ha := owns_kp ha kk (fun _ _ h => h)
        have hx := K0.blk_ kk hx
        have hy := K0.blk_ kk hy
        have kc := kc.trans kk
        refine ⟨WrL_block hx (Nat.le_refl 9), fun wp hp => ?_⟩
        have ha := owns_kp ha hp.kp (fun k hk e => own_not ha hx rfl (by rw [hk, e]))
        have hb := owns_kp hb hp.kp (fun k hk e => own_not hb hx rfl (by rw [hk, e]))
        have hy := hp.blk hy (fun e => hne e.symm)
        have hx := hp.full hx rfl
        have kc := put_k0 kc hp gx
        refine ⟨WrL_block hy (Nat.le_refl 9), fun wq hp => ?_⟩
        have ha := owns_kp ha hp.kp (fun k hk e => own_not ha hy rfl (by rw [hk, e]))
        have hb := owns_kp hb hp.kp (fun k hk e => own_not hb hy rfl (by rw [hk, e]))
        have hx := hp.blk hx hne
        have hy := hp.full hy rfl
        have kc := put_k0 kc hp gy
        clear hp
        refine ⟨.of_k0 kc, ?_⟩
        intro W8 hW8
        have k8 : K0 wq W8 := hW8.kk rfl
        have kc8 := kc.trans k8
        have hx := K0.blk_ k8 hx
        have hy := K0.blk_ k8 hy
        have hra := (strP_own ha).k0 k8
        have hrb := (strP_own hb).k0 k8
        have hda := own_le ha
        refine ⟨fun wx => K0 W8 wx, .refl _ _, ⟨(known_any W8 (hT.k0 (kW.trans kc8))).mono fun e w9 ⟨he, k9⟩ => ⟨_, he, k9, _, _, _, _, _, _, _, _, _, _, _, gimp_intro fun _ wx k => AtL_block (K0.blk_ k hx) rfl, _, _, _, _, _, _, _, _, _, _, _, gimp_intro fun _ wx k => AtL_block (K0.blk_ k hx) rfl, bsp_intro (fun _ => ?_) (fun h => by cases h)⟩⟩⟩
        refine ⟨(mcheck_any (toM a) qa da w9 (hra.k0 k9) hda (by omega) (by omega)).mono fun e w10 ⟨he, k10⟩ => ⟨_, he, k9.trans k10, ?_⟩⟩
        have k810 := k9.trans k10
        refine ⟨(of_any (toM a) qa da w10 (hra.k0 k810) (by omega)).mono fun e w11 ⟨⟨q2, d2, he, ho2⟩, k11⟩ => ⟨_, _, _, _, _, _, _, _, _, _, _, he, k810.trans k11, ?_⟩⟩
        have k811 := k810.trans k11
        refine ⟨(xcheck_any (toM a) q2 d2 w11 (strP_own ho2) (own_le ho2) ⟨zx.1, zx.2.2.1⟩ (by omega)).mono fun e w12 ⟨he, k12⟩ => ⟨_, he, k811.trans k12, _, _, _, _, _, _, _, _, _, _, _, gimp_intro fun _ wx k => AtL_block (K0.blk_ k hx) rfl, _, _, _, _, _, _, _, _, _, _, _, gimp_intro fun _ wx k => AtL_block (K0.blk_ k hy) rfl, _, _, _, _, _, _, _, _, _, _, _, gimp_intro fun _ wx k => AtL_block (K0.blk_ k hx) rfl, _, _, _, _, _, _, _, _, _, _, _, gimp_intro fun _ wx k => AtL_block (K0.blk_ k hy) rfl, bsp_intro (fun _ => ?_) (fun h => by simp at h)⟩⟩
        have k812 := k811.trans k12
        refine ⟨(mequal_any (toM a) (toM b) qa da qb db w12 (hra.k0 k812) (hrb.k0 k812) (by omega) zx zy).mono fun e w13 ⟨he, k13⟩ => ⟨_, he, k812.trans k13, ?_⟩⟩
        have k813 := k812.trans k13
        refine ⟨(of_any (toM a) qa da w13 (hra.k0 k813) (by omega)).mono fun e w14 ⟨⟨q3, d3, he, ho3⟩, k14⟩ => ⟨_, _, _, _, _, _, _, _, _, _, _, he, k813.trans k14, ?_⟩⟩
        have k814 := k813.trans k14
        refine ⟨(of_any (toM b) qb db w14 (hrb.k0 k814) (by omega)).mono fun e w15 ⟨⟨q4, d4, he, ho4⟩, k15⟩ => ⟨_, _, _, _, _, _, _, _, _, _, _, he, k814.trans k15, ?_⟩⟩
        have k815 := k814.trans k15
        refine ⟨(xsame_any (toM a) (toM b) q3 d3 q4 d4 w15 ((strP_own ho3).k0 k15) (strP_own ho4) (by omega) zx zy).mono fun e w16 ⟨he, k16⟩ => ⟨_, he, k815.trans k16, _, _, _, _, _, _, _, _, _, _, _, gimp_intro fun _ wx k => AtL_block (K0.blk_ k hx) rfl, _, _, _, _, _, _, _, _, _, _, _, gimp_intro fun _ wx k => AtL_block (K0.blk_ (kc8.trans k) hc1) rfl, bsp_intro (fun _ => ?_) (fun h => by simp at h)⟩⟩
        have k816 := k815.trans k16
        refine ⟨(hA w16 (kc8.trans k816)).mono fun e w17 ⟨⟨q5, d5, he, ho5⟩, k17⟩ => ⟨_, _, _, _, _, _, _, _, _, _, _, he, k816.trans k17, ?_⟩⟩
        have k817 := k816.trans k17
        refine ⟨(mequal_any (toM a) (toM a) qa da q5 d5 w17 (hra.k0 k817) (strP_own ho5) (by omega) zx zx).mono fun e w18 ⟨he, k18⟩ => ⟨_, he, .of_k0 (k817.trans k18), ?_, kW.trans (kc8.trans (k817.trans k18))⟩⟩
        rw [eqM_self]; rfl
    · refine fun ny w2 hn => ⟨kc.trans (hn.kp _), ?_⟩
      have hy := hn.block
      have gy := Nat.le_trans kc.size hn.ge
      have ha := owns_kp ha (hn.kp (fun _ => False)) (fun _ _ h => h)
      have kc := kc.trans (hn.kp (fun _ => False))
      refine ⟨?_, ?_⟩
      · refine ⟨(hB _ kc).mono fun e w3 ⟨⟨qb, db, he, hb⟩, kk⟩ => ⟨_, _, _, _, _, _, _, _, _, _, _, he, ?_⟩⟩
        have hb := own_base hb kc.size
        have ha := owns_kp ha kk (fun _ _ h => h)
        have hy := K0.blk_ kk hy
        have kc := kc.trans kk
        refine fun nx w4 hn => ⟨kc.trans (hn.kp _), ?_⟩
        have hx := hn.block
        have gx := Nat.le_trans kc.size hn.ge
        have hne : nx ≠ ny := by have h1 := block_lt hy; have h2 := hn.ge; omega
        have ha := owns_kp ha (hn.kp (fun _ => False)) (fun _ _ h => h)
        have hb := owns_kp hb (hn.kp (fun _ => False)) (fun _ _ h => h)
        have hy := K0.blk_ (hn.kp (fun _ => False)) hy
        have kc := kc.trans (hn.kp (fun _ => False))
        refine ⟨WrL_block hx (Nat.le_refl 9), fun wp hp => ?_⟩
        have ha := owns_kp ha hp.kp (fun k hk e => own_not ha hx rfl (by rw [hk, e]))
        have hb := owns_kp hb hp.kp (fun k hk e => own_not hb hx rfl (by rw [hk, e]))
        have hy := hp.blk hy (fun e => hne e.symm)
        have hx := hp.full hx rfl
        have kc := put_k0 kc hp gx
        refine ⟨WrL_block hy (Nat.le_refl 9), fun wq hp => ?_⟩
        have ha := owns_kp ha hp.kp (fun k hk e => own_not ha hy rfl (by rw [hk, e]))
        have hb := owns_kp hb hp.kp (fun k hk e => own_not hb hy rfl (by rw [hk, e]))
        have hx := hp.blk hx hne
        have hy := hp.full hy rfl
        have kc := put_k0 kc hp gy
        clear hp
        refine ⟨.of_k0 kc, ?_⟩
        intro W8 hW8
        have k8 : K0 wq W8 := hW8.kk rfl
        have kc8 := kc.trans k8
        have hx := K0.blk_ k8 hx
        have hy := K0.blk_ k8 hy
        have hra := (strP_own ha).k0 k8
        have hrb := (strP_own hb).k0 k8
        have hda := own_le ha
        refine ⟨fun wx => K0 W8 wx, .refl _ _, ⟨(known_any W8 (hT.k0 (kW.trans kc8))).mono fun e w9 ⟨he, k9⟩ => ⟨_, he, k9, _, _, _, _, _, _, _, _, _, _, _, gimp_intro fun _ wx k => AtL_block (K0.blk_ k hx) rfl, _, _, _, _, _, _, _, _, _, _, _, gimp_intro fun _ wx k => AtL_block (K0.blk_ k hx) rfl, bsp_intro (fun _ => ?_) (fun h => by cases h)⟩⟩⟩
        refine ⟨(mcheck_any (toM a) qa da w9 (hra.k0 k9) hda (by omega) (by omega)).mono fun e w10 ⟨he, k10⟩ => ⟨_, he, k9.trans k10, ?_⟩⟩
        have k810 := k9.trans k10
        refine ⟨(of_any (toM a) qa da w10 (hra.k0 k810) (by omega)).mono fun e w11 ⟨⟨q2, d2, he, ho2⟩, k11⟩ => ⟨_, _, _, _, _, _, _, _, _, _, _, he, k810.trans k11, ?_⟩⟩
        have k811 := k810.trans k11
        refine ⟨(xcheck_any (toM a) q2 d2 w11 (strP_own ho2) (own_le ho2) ⟨zx.1, zx.2.2.1⟩ (by omega)).mono fun e w12 ⟨he, k12⟩ => ⟨_, he, k811.trans k12, _, _, _, _, _, _, _, _, _, _, _, gimp_intro fun _ wx k => AtL_block (K0.blk_ k hx) rfl, _, _, _, _, _, _, _, _, _, _, _, gimp_intro fun _ wx k => AtL_block (K0.blk_ k hy) rfl, _, _, _, _, _, _, _, _, _, _, _, gimp_intro fun _ wx k => AtL_block (K0.blk_ k hx) rfl, _, _, _, _, _, _, _, _, _, _, _, gimp_intro fun _ wx k => AtL_block (K0.blk_ k hy) rfl, bsp_intro (fun _ => ?_) (fun h => by simp at h)⟩⟩
        have k812 := k811.trans k12
        refine ⟨(mequal_any (toM a) (toM b) qa da qb db w12 (hra.k0 k812) (hrb.k0 k812) (by omega) zx zy).mono fun e w13 ⟨he, k13⟩ => ⟨_, he, k812.trans k13, ?_⟩⟩
        have k813 := k812.trans k13
        refine ⟨(of_any (toM a) qa da w13 (hra.k0 k813) (by omega)).mono fun e w14 ⟨⟨q3, d3, he, ho3⟩, k14⟩ => ⟨_, _, _, _, _, _, _, _, _, _, _, he, k813.trans k14, ?_⟩⟩
        have k814 := k813.trans k14
        refine ⟨(of_any (toM b) qb db w14 (hrb.k0 k814) (by omega)).mono fun e w15 ⟨⟨q4, d4, he, ho4⟩, k15⟩ => ⟨_, _, _, _, _, _, _, _, _, _, _, he, k814.trans k15, ?_⟩⟩
        have k815 := k814.trans k15
        refine ⟨(xsame_any (toM a) (toM b) q3 d3 q4 d4 w15 ((strP_own ho3).k0 k15) (strP_own ho4) (by omega) zx zy).mono fun e w16 ⟨he, k16⟩ => ⟨_, he, k815.trans k16, _, _, _, _, _, _, _, _, _, _, _, gimp_intro fun _ wx k => AtL_block (K0.blk_ k hx) rfl, _, _, _, _, _, _, _, _, _, _, _, gimp_intro fun _ wx k => AtL_block (K0.blk_ (kc8.trans k) hc1) rfl, bsp_intro (fun _ => ?_) (fun h => by simp at h)⟩⟩
        have k816 := k815.trans k16
        refine ⟨(hA w16 (kc8.trans k816)).mono fun e w17 ⟨⟨q5, d5, he, ho5⟩, k17⟩ => ⟨_, _, _, _, _, _, _, _, _, _, _, he, k816.trans k17, ?_⟩⟩
        have k817 := k816.trans k17
        refine ⟨(mequal_any (toM a) (toM a) qa da q5 d5 w17 (hra.k0 k817) (strP_own ho5) (by omega) zx zx).mono fun e w18 ⟨he, k18⟩ => ⟨_, he, .of_k0 (k817.trans k18), ?_, kW.trans (kc8.trans (k817.trans k18))⟩⟩
        rw [eqM_self]; rfl
      · refine fun nx w3 hn => ⟨kc.trans (hn.kp _), ?_⟩
        have hx := hn.block
        have gx := Nat.le_trans kc.size hn.ge
        have hne : nx ≠ ny := by have h1 := block_lt hy; have h2 := hn.ge; omega
        have ha := owns_kp ha (hn.kp (fun _ => False)) (fun _ _ h => h)
        have hy := K0.blk_ (hn.kp (fun _ => False)) hy
        have kc := kc.trans (hn.kp (fun _ => False))
        refine ⟨(hB _ kc).mono fun e w4 ⟨⟨qb, db, he, hb⟩, kk⟩ => ⟨_, _, _, _, _, _, _, _, _, _, _, he, ?_⟩⟩
        have hb := own_base hb kc.size
        have ha := owns_kp ha kk (fun _ _ h => h)
        have hx := K0.blk_ kk hx
        have hy := K0.blk_ kk hy
        have kc := kc.trans kk
        refine ⟨WrL_block hx (Nat.le_refl 9), fun wp hp => ?_⟩
        have ha := owns_kp ha hp.kp (fun k hk e => own_not ha hx rfl (by rw [hk, e]))
        have hb := owns_kp hb hp.kp (fun k hk e => own_not hb hx rfl (by rw [hk, e]))
        have hy := hp.blk hy (fun e => hne e.symm)
        have hx := hp.full hx rfl
        have kc := put_k0 kc hp gx
        refine ⟨WrL_block hy (Nat.le_refl 9), fun wq hp => ?_⟩
        have ha := owns_kp ha hp.kp (fun k hk e => own_not ha hy rfl (by rw [hk, e]))
        have hb := owns_kp hb hp.kp (fun k hk e => own_not hb hy rfl (by rw [hk, e]))
        have hx := hp.blk hx hne
        have hy := hp.full hy rfl
        have kc := put_k0 kc hp gy
        clear hp
        refine ⟨.of_k0 kc, ?_⟩
        intro W8 hW8
        have k8 : K0 wq W8 := hW8.kk rfl
        have kc8 := kc.trans k8
        have hx := K0.blk_ k8 hx
        have hy := K0.blk_ k8 hy
        have hra := (strP_own ha).k0 k8
        have hrb := (strP_own hb).k0 k8
        have hda := own_le ha
        refine ⟨fun wx => K0 W8 wx, .refl _ _, ⟨(known_any W8 (hT.k0 (kW.trans kc8))).mono fun e w9 ⟨he, k9⟩ => ⟨_, he, k9, _, _, _, _, _, _, _, _, _, _, _, gimp_intro fun _ wx k => AtL_block (K0.blk_ k hx) rfl, _, _, _, _, _, _, _, _, _, _, _, gimp_intro fun _ wx k => AtL_block (K0.blk_ k hx) rfl, bsp_intro (fun _ => ?_) (fun h => by cases h)⟩⟩⟩
        refine ⟨(mcheck_any (toM a) qa da w9 (hra.k0 k9) hda (by omega) (by omega)).mono fun e w10 ⟨he, k10⟩ => ⟨_, he, k9.trans k10, ?_⟩⟩
        have k810 := k9.trans k10
        refine ⟨(of_any (toM a) qa da w10 (hra.k0 k810) (by omega)).mono fun e w11 ⟨⟨q2, d2, he, ho2⟩, k11⟩ => ⟨_, _, _, _, _, _, _, _, _, _, _, he, k810.trans k11, ?_⟩⟩
        have k811 := k810.trans k11
        refine ⟨(xcheck_any (toM a) q2 d2 w11 (strP_own ho2) (own_le ho2) ⟨zx.1, zx.2.2.1⟩ (by omega)).mono fun e w12 ⟨he, k12⟩ => ⟨_, he, k811.trans k12, _, _, _, _, _, _, _, _, _, _, _, gimp_intro fun _ wx k => AtL_block (K0.blk_ k hx) rfl, _, _, _, _, _, _, _, _, _, _, _, gimp_intro fun _ wx k => AtL_block (K0.blk_ k hy) rfl, _, _, _, _, _, _, _, _, _, _, _, gimp_intro fun _ wx k => AtL_block (K0.blk_ k hx) rfl, _, _, _, _, _, _, _, _, _, _, _, gimp_intro fun _ wx k => AtL_block (K0.blk_ k hy) rfl, bsp_intro (fun _ => ?_) (fun h => by simp at h)⟩⟩
        have k812 := k811.trans k12
        refine ⟨(mequal_any (toM a) (toM b) qa da qb db w12 (hra.k0 k812) (hrb.k0 k812) (by omega) zx zy).mono fun e w13 ⟨he, k13⟩ => ⟨_, he, k812.trans k13, ?_⟩⟩
        have k813 := k812.trans k13
        refine ⟨(of_any (toM a) qa da w13 (hra.k0 k813) (by omega)).mono fun e w14 ⟨⟨q3, d3, he, ho3⟩, k14⟩ => ⟨_, _, _, _, _, _, _, _, _, _, _, he, k813.trans k14, ?_⟩⟩
        have k814 := k813.trans k14
        refine ⟨(of_any (toM b) qb db w14 (hrb.k0 k814) (by omega)).mono fun e w15 ⟨⟨q4, d4, he, ho4⟩, k15⟩ => ⟨_, _, _, _, _, _, _, _, _, _, _, he, k814.trans k15, ?_⟩⟩
        have k815 := k814.trans k15
        refine ⟨(xsame_any (toM a) (toM b) q3 d3 q4 d4 w15 ((strP_own ho3).k0 k15) (strP_own ho4) (by omega) zx zy).mono fun e w16 ⟨he, k16⟩ => ⟨_, he, k815.trans k16, _, _, _, _, _, _, _, _, _, _, _, gimp_intro fun _ wx k => AtL_block (K0.blk_ k hx) rfl, _, _, _, _, _, _, _, _, _, _, _, gimp_intro fun _ wx k => AtL_block (K0.blk_ (kc8.trans k) hc1) rfl, bsp_intro (fun _ => ?_) (fun h => by simp at h)⟩⟩
        have k816 := k815.trans k16
        refine ⟨(hA w16 (kc8.trans k816)).mono fun e w17 ⟨⟨q5, d5, he, ho5⟩, k17⟩ => ⟨_, _, _, _, _, _, _, _, _, _, _, he, k816.trans k17, ?_⟩⟩
        have k817 := k816.trans k17
        refine ⟨(mequal_any (toM a) (toM a) qa da q5 d5 w17 (hra.k0 k817) (strP_own ho5) (by omega) zx zx).mono fun e w18 ⟨he, k18⟩ => ⟨_, he, .of_k0 (k817.trans k18), ?_, kW.trans (kc8.trans (k817.trans k18))⟩⟩
        rw [eqM_self]; rfl
  · refine fun nx w1 hn => ⟨kc.trans (hn.kp _), ?_⟩
    have hx := hn.block
    have gx := Nat.le_trans kc.size hn.ge
    have kc := kc.trans (hn.kp (fun _ => False))
    refine ⟨?_, ?_⟩
    · refine ⟨(hA _ kc).mono fun e w2 ⟨⟨qa, da, he, ha⟩, kk⟩ => ⟨_, _, _, _, _, _, _, _, _, _, _, he, kc.trans kk, ?_⟩⟩
      have ha := own_base ha kc.size
      have hx := K0.blk_ kk hx
      have kc := kc.trans kk
      refine ⟨?_, ?_⟩
      · refine ⟨(hB _ kc).mono fun e w3 ⟨⟨qb, db, he, hb⟩, kk⟩ => ⟨_, _, _, _, _, _, _, _, _, _, _, he, ?_⟩⟩
        have hb := own_base hb kc.size
        have ha := owns_kp ha kk (fun _ _ h => h)
        have hx := K0.blk_ kk hx
        have kc := kc.trans kk
        refine fun ny w4 hn => ⟨kc.trans (hn.kp _), ?_⟩
        have hy := hn.block
        have gy := Nat.le_trans kc.size hn.ge
        have hne : nx ≠ ny := by have h1 := block_lt hx; have h2 := hn.ge; omega
        have ha := owns_kp ha (hn.kp (fun _ => False)) (fun _ _ h => h)
        have hb := owns_kp hb (hn.kp (fun _ => False)) (fun _ _ h => h)
        have hx := K0.blk_ (hn.kp (fun _ => False)) hx
        have kc := kc.trans (hn.kp (fun _ => False))
        refine ⟨WrL_block hx (Nat.le_refl 9), fun wp hp => ?_⟩
        have ha := owns_kp ha hp.kp (fun k hk e => own_not ha hx rfl (by rw [hk, e]))
        have hb := owns_kp hb hp.kp (fun k hk e => own_not hb hx rfl (by rw [hk, e]))
        have hy := hp.blk hy (fun e => hne e.symm)
        have hx := hp.full hx rfl
        have kc := put_k0 kc hp gx
        refine ⟨WrL_block hy (Nat.le_refl 9), fun wq hp => ?_⟩
        have ha := owns_kp ha hp.kp (fun k hk e => own_not ha hy rfl (by rw [hk, e]))
        have hb := owns_kp hb hp.kp (fun k hk e => own_not hb hy rfl (by rw [hk, e]))
        have hx := hp.blk hx hne
        have hy := hp.full hy rfl
        have kc := put_k0 kc hp gy
        clear hp
        refine ⟨.of_k0 kc, ?_⟩
        intro W8 hW8
        have k8 : K0 wq W8 := hW8.kk rfl
        have kc8 := kc.trans k8
        have hx := K0.blk_ k8 hx
        have hy := K0.blk_ k8 hy
        have hra := (strP_own ha).k0 k8
        have hrb := (strP_own hb).k0 k8
        have hda := own_le ha
        refine ⟨fun wx => K0 W8 wx, .refl _ _, ⟨(known_any W8 (hT.k0 (kW.trans kc8))).mono fun e w9 ⟨he, k9⟩ => ⟨_, he, k9, _, _, _, _, _, _, _, _, _, _, _, gimp_intro fun _ wx k => AtL_block (K0.blk_ k hx) rfl, _, _, _, _, _, _, _, _, _, _, _, gimp_intro fun _ wx k => AtL_block (K0.blk_ k hx) rfl, bsp_intro (fun _ => ?_) (fun h => by cases h)⟩⟩⟩
        refine ⟨(mcheck_any (toM a) qa da w9 (hra.k0 k9) hda (by omega) (by omega)).mono fun e w10 ⟨he, k10⟩ => ⟨_, he, k9.trans k10, ?_⟩⟩
        have k810 := k9.trans k10
        refine ⟨(of_any (toM a) qa da w10 (hra.k0 k810) (by omega)).mono fun e w11 ⟨⟨q2, d2, he, ho2⟩, k11⟩ => ⟨_, _, _, _, _, _, _, _, _, _, _, he, k810.trans k11, ?_⟩⟩
        have k811 := k810.trans k11
        refine ⟨(xcheck_any (toM a) q2 d2 w11 (strP_own ho2) (own_le ho2) ⟨zx.1, zx.2.2.1⟩ (by omega)).mono fun e w12 ⟨he, k12⟩ => ⟨_, he, k811.trans k12, _, _, _, _, _, _, _, _, _, _, _, gimp_intro fun _ wx k => AtL_block (K0.blk_ k hx) rfl, _, _, _, _, _, _, _, _, _, _, _, gimp_intro fun _ wx k => AtL_block (K0.blk_ k hy) rfl, _, _, _, _, _, _, _, _, _, _, _, gimp_intro fun _ wx k => AtL_block (K0.blk_ k hx) rfl, _, _, _, _, _, _, _, _, _, _, _, gimp_intro fun _ wx k => AtL_block (K0.blk_ k hy) rfl, bsp_intro (fun _ => ?_) (fun h => by simp at h)⟩⟩
        have k812 := k811.trans k12
        refine ⟨(mequal_any (toM a) (toM b) qa da qb db w12 (hra.k0 k812) (hrb.k0 k812) (by omega) zx zy).mono fun e w13 ⟨he, k13⟩ => ⟨_, he, k812.trans k13, ?_⟩⟩
        have k813 := k812.trans k13
        refine ⟨(of_any (toM a) qa da w13 (hra.k0 k813) (by omega)).mono fun e w14 ⟨⟨q3, d3, he, ho3⟩, k14⟩ => ⟨_, _, _, _, _, _, _, _, _, _, _, he, k813.trans k14, ?_⟩⟩
        have k814 := k813.trans k14
        refine ⟨(of_any (toM b) qb db w14 (hrb.k0 k814) (by omega)).mono fun e w15 ⟨⟨q4, d4, he, ho4⟩, k15⟩ => ⟨_, _, _, _, _, _, _, _, _, _, _, he, k814.trans k15, ?_⟩⟩
        have k815 := k814.trans k15
        refine ⟨(xsame_any (toM a) (toM b) q3 d3 q4 d4 w15 ((strP_own ho3).k0 k15) (strP_own ho4) (by omega) zx zy).mono fun e w16 ⟨he, k16⟩ => ⟨_, he, k815.trans k16, _, _, _, _, _, _, _, _, _, _, _, gimp_intro fun _ wx k => AtL_block (K0.blk_ k hx) rfl, _, _, _, _, _, _, _, _, _, _, _, gimp_intro fun _ wx k => AtL_block (K0.blk_ (kc8.trans k) hc1) rfl, bsp_intro (fun _ => ?_) (fun h => by simp at h)⟩⟩
        have k816 := k815.trans k16
        refine ⟨(hA w16 (kc8.trans k816)).mono fun e w17 ⟨⟨q5, d5, he, ho5⟩, k17⟩ => ⟨_, _, _, _, _, _, _, _, _, _, _, he, k816.trans k17, ?_⟩⟩
        have k817 := k816.trans k17
        refine ⟨(mequal_any (toM a) (toM a) qa da q5 d5 w17 (hra.k0 k817) (strP_own ho5) (by omega) zx zx).mono fun e w18 ⟨he, k18⟩ => ⟨_, he, .of_k0 (k817.trans k18), ?_, kW.trans (kc8.trans (k817.trans k18))⟩⟩
        rw [eqM_self]; rfl
      · refine fun ny w3 hn => ⟨kc.trans (hn.kp _), ?_⟩
        have hy := hn.block
        have gy := Nat.le_trans kc.size hn.ge
        have hne : nx ≠ ny := by have h1 := block_lt hx; have h2 := hn.ge; omega
        have ha := owns_kp ha (hn.kp (fun _ => False)) (fun _ _ h => h)
        have hx := K0.blk_ (hn.kp (fun _ => False)) hx
        have kc := kc.trans (hn.kp (fun _ => False))
        refine ⟨(hB _ kc).mono fun e w4 ⟨⟨qb, db, he, hb⟩, kk⟩ => ⟨_, _, _, _, _, _, _, _, _, _, _, he, ?_⟩⟩
        have hb := own_base hb kc.size
        have ha := owns_kp ha kk (fun _ _ h => h)
        have hx := K0.blk_ kk hx
        have hy := K0.blk_ kk hy
        have kc := kc.trans kk
        refine ⟨WrL_block hx (Nat.le_refl 9), fun wp hp => ?_⟩
        have ha := owns_kp ha hp.kp (fun k hk e => own_not ha hx rfl (by rw [hk, e]))
        have hb := owns_kp hb hp.kp (fun k hk e => own_not hb hx rfl (by rw [hk, e]))
        have hy := hp.blk hy (fun e => hne e.symm)
        have hx := hp.full hx rfl
        have kc := put_k0 kc hp gx
        refine ⟨WrL_block hy (Nat.le_refl 9), fun wq hp => ?_⟩
        have ha := owns_kp ha hp.kp (fun k hk e => own_not ha hy rfl (by rw [hk, e]))
        have hb := owns_kp hb hp.kp (fun k hk e => own_not hb hy rfl (by rw [hk, e]))
        have hx := hp.blk hx hne
        have hy := hp.full hy rfl
        have kc := put_k0 kc hp gy
        clear hp
        refine ⟨.of_k0 kc, ?_⟩
        intro W8 hW8
        have k8 : K0 wq W8 := hW8.kk rfl
        have kc8 := kc.trans k8
        have hx := K0.blk_ k8 hx
        have hy := K0.blk_ k8 hy
        have hra := (strP_own ha).k0 k8
        have hrb := (strP_own hb).k0 k8
        have hda := own_le ha
        refine ⟨fun wx => K0 W8 wx, .refl _ _, ⟨(known_any W8 (hT.k0 (kW.trans kc8))).mono fun e w9 ⟨he, k9⟩ => ⟨_, he, k9, _, _, _, _, _, _, _, _, _, _, _, gimp_intro fun _ wx k => AtL_block (K0.blk_ k hx) rfl, _, _, _, _, _, _, _, _, _, _, _, gimp_intro fun _ wx k => AtL_block (K0.blk_ k hx) rfl, bsp_intro (fun _ => ?_) (fun h => by cases h)⟩⟩⟩
        refine ⟨(mcheck_any (toM a) qa da w9 (hra.k0 k9) hda (by omega) (by omega)).mono fun e w10 ⟨he, k10⟩ => ⟨_, he, k9.trans k10, ?_⟩⟩
        have k810 := k9.trans k10
        refine ⟨(of_any (toM a) qa da w10 (hra.k0 k810) (by omega)).mono fun e w11 ⟨⟨q2, d2, he, ho2⟩, k11⟩ => ⟨_, _, _, _, _, _, _, _, _, _, _, he, k810.trans k11, ?_⟩⟩
        have k811 := k810.trans k11
        refine ⟨(xcheck_any (toM a) q2 d2 w11 (strP_own ho2) (own_le ho2) ⟨zx.1, zx.2.2.1⟩ (by omega)).mono fun e w12 ⟨he, k12⟩ => ⟨_, he, k811.trans k12, _, _, _, _, _, _, _, _, _, _, _, gimp_intro fun _ wx k => AtL_block (K0.blk_ k hx) rfl, _, _, _, _, _, _, _, _, _, _, _, gimp_intro fun _ wx k => AtL_block (K0.blk_ k hy) rfl, _, _, _, _, _, _, _, _, _, _, _, gimp_intro fun _ wx k => AtL_block (K0.blk_ k hx) rfl, _, _, _, _, _, _, _, _, _, _, _, gimp_intro fun _ wx k => AtL_block (K0.blk_ k hy) rfl, bsp_intro (fun _ => ?_) (fun h => by simp at h)⟩⟩
        have k812 := k811.trans k12
        refine ⟨(mequal_any (toM a) (toM b) qa da qb db w12 (hra.k0 k812) (hrb.k0 k812) (by omega) zx zy).mono fun e w13 ⟨he, k13⟩ => ⟨_, he, k812.trans k13, ?_⟩⟩
        have k813 := k812.trans k13
        refine ⟨(of_any (toM a) qa da w13 (hra.k0 k813) (by omega)).mono fun e w14 ⟨⟨q3, d3, he, ho3⟩, k14⟩ => ⟨_, _, _, _, _, _, _, _, _, _, _, he, k813.trans k14, ?_⟩⟩
        have k814 := k813.trans k14
        refine ⟨(of_any (toM b) qb db w14 (hrb.k0 k814) (by omega)).mono fun e w15 ⟨⟨q4, d4, he, ho4⟩, k15⟩ => ⟨_, _, _, _, _, _, _, _, _, _, _, he, k814.trans k15, ?_⟩⟩
        have k815 := k814.trans k15
        refine ⟨(xsame_any (toM a) (toM b) q3 d3 q4 d4 w15 ((strP_own ho3).k0 k15) (strP_own ho4) (by omega) zx zy).mono fun e w16 ⟨he, k16⟩ => ⟨_, he, k815.trans k16, _, _, _, _, _, _, _, _, _, _, _, gimp_intro fun _ wx k => AtL_block (K0.blk_ k hx) rfl, _, _, _, _, _, _, _, _, _, _, _, gimp_intro fun _ wx k => AtL_block (K0.blk_ (kc8.trans k) hc1) rfl, bsp_intro (fun _ => ?_) (fun h => by simp at h)⟩⟩
        have k816 := k815.trans k16
        refine ⟨(hA w16 (kc8.trans k816)).mono fun e w17 ⟨⟨q5, d5, he, ho5⟩, k17⟩ => ⟨_, _, _, _, _, _, _, _, _, _, _, he, k816.trans k17, ?_⟩⟩
        have k817 := k816.trans k17
        refine ⟨(mequal_any (toM a) (toM a) qa da q5 d5 w17 (hra.k0 k817) (strP_own ho5) (by omega) zx zx).mono fun e w18 ⟨he, k18⟩ => ⟨_, he, .of_k0 (k817.trans k18), ?_, kW.trans (kc8.trans (k817.trans k18))⟩⟩
        rw [eqM_self]; rfl
    · refine fun ny w2 hn => ⟨kc.trans (hn.kp _), ?_⟩
      have hy := hn.block
      have gy := Nat.le_trans kc.size hn.ge
      have hne : nx ≠ ny := by have h1 := block_lt hx; have h2 := hn.ge; omega
      have hx := K0.blk_ (hn.kp (fun _ => False)) hx
      have kc := kc.trans (hn.kp (fun _ => False))
      refine ⟨(hA _ kc).mono fun e w3 ⟨⟨qa, da, he, ha⟩, kk⟩ => ⟨_, _, _, _, _, _, _, _, _, _, _, he, kc.trans kk, ?_⟩⟩
      have ha := own_base ha kc.size
      have hx := K0.blk_ kk hx
      have hy := K0.blk_ kk hy
      have kc := kc.trans kk
      refine ⟨(hB _ kc).mono fun e w4 ⟨⟨qb, db, he, hb⟩, kk⟩ => ⟨_, _, _, _, _, _, _, _, _, _, _, he, ?_⟩⟩
      have hb := own_base hb kc.size
      have ha := owns_kp ha kk (fun _ _ h => h)
      have hx := K0.blk_ kk hx
      have hy := K0.blk_ kk hy
      have kc := kc.trans kk
      refine ⟨WrL_block hx (Nat.le_refl 9), fun wp hp => ?_⟩
      have ha := owns_kp ha hp.kp (fun k hk e => own_not ha hx rfl (by rw [hk, e]))
      have hb := owns_kp hb hp.kp (fun k hk e => own_not hb hx rfl (by rw [hk, e]))
      have hy := hp.blk hy (fun e => hne e.symm)
      have hx := hp.full hx rfl
      have kc := put_k0 kc hp gx
      refine ⟨WrL_block hy (Nat.le_refl 9), fun wq hp => ?_⟩
      have ha := owns_kp ha hp.kp (fun k hk e => own_not ha hy rfl (by rw [hk, e]))
      have hb := owns_kp hb hp.kp (fun k hk e => own_not hb hy rfl (by rw [hk, e]))
      have hx := hp.blk hx hne
      have hy := hp.full hy rfl
      have kc := put_k0 kc hp gy
      clear hp
      refine ⟨.of_k0 kc, ?_⟩
      intro W8 hW8
      have k8 : K0 wq W8 := hW8.kk rfl
      have kc8 := kc.trans k8
      have hx := K0.blk_ k8 hx
      have hy := K0.blk_ k8 hy
      have hra := (strP_own ha).k0 k8
      have hrb := (strP_own hb).k0 k8
      have hda := own_le ha
      refine ⟨fun wx => K0 W8 wx, .refl _ _, ⟨(known_any W8 (hT.k0 (kW.trans kc8))).mono fun e w9 ⟨he, k9⟩ => ⟨_, he, k9, _, _, _, _, _, _, _, _, _, _, _, gimp_intro fun _ wx k => AtL_block (K0.blk_ k hx) rfl, _, _, _, _, _, _, _, _, _, _, _, gimp_intro fun _ wx k => AtL_block (K0.blk_ k hx) rfl, bsp_intro (fun _ => ?_) (fun h => by cases h)⟩⟩⟩
      refine ⟨(mcheck_any (toM a) qa da w9 (hra.k0 k9) hda (by omega) (by omega)).mono fun e w10 ⟨he, k10⟩ => ⟨_, he, k9.trans k10, ?_⟩⟩
      have k810 := k9.trans k10
      refine ⟨(of_any (toM a) qa da w10 (hra.k0 k810) (by omega)).mono fun e w11 ⟨⟨q2, d2, he, ho2⟩, k11⟩ => ⟨_, _, _, _, _, _, _, _, _, _, _, he, k810.trans k11, ?_⟩⟩
      have k811 := k810.trans k11
      refine ⟨(xcheck_any (toM a) q2 d2 w11 (strP_own ho2) (own_le ho2) ⟨zx.1, zx.2.2.1⟩ (by omega)).mono fun e w12 ⟨he, k12⟩ => ⟨_, he, k811.trans k12, _, _, _, _, _, _, _, _, _, _, _, gimp_intro fun _ wx k => AtL_block (K0.blk_ k hx) rfl, _, _, _, _, _, _, _, _, _, _, _, gimp_intro fun _ wx k => AtL_block (K0.blk_ k hy) rfl, _, _, _, _, _, _, _, _, _, _, _, gimp_intro fun _ wx k => AtL_block (K0.blk_ k hx) rfl, _, _, _, _, _, _, _, _, _, _, _, gimp_intro fun _ wx k => AtL_block (K0.blk_ k hy) rfl, bsp_intro (fun _ => ?_) (fun h => by simp at h)⟩⟩
      have k812 := k811.trans k12
      refine ⟨(mequal_any (toM a) (toM b) qa da qb db w12 (hra.k0 k812) (hrb.k0 k812) (by omega) zx zy).mono fun e w13 ⟨he, k13⟩ => ⟨_, he, k812.trans k13, ?_⟩⟩
      have k813 := k812.trans k13
      refine ⟨(of_any (toM a) qa da w13 (hra.k0 k813) (by omega)).mono fun e w14 ⟨⟨q3, d3, he, ho3⟩, k14⟩ => ⟨_, _, _, _, _, _, _, _, _, _, _, he, k813.trans k14, ?_⟩⟩
      have k814 := k813.trans k14
      refine ⟨(of_any (toM b) qb db w14 (hrb.k0 k814) (by omega)).mono fun e w15 ⟨⟨q4, d4, he, ho4⟩, k15⟩ => ⟨_, _, _, _, _, _, _, _, _, _, _, he, k814.trans k15, ?_⟩⟩
      have k815 := k814.trans k15
      refine ⟨(xsame_any (toM a) (toM b) q3 d3 q4 d4 w15 ((strP_own ho3).k0 k15) (strP_own ho4) (by omega) zx zy).mono fun e w16 ⟨he, k16⟩ => ⟨_, he, k815.trans k16, _, _, _, _, _, _, _, _, _, _, _, gimp_intro fun _ wx k => AtL_block (K0.blk_ k hx) rfl, _, _, _, _, _, _, _, _, _, _, _, gimp_intro fun _ wx k => AtL_block (K0.blk_ (kc8.trans k) hc1) rfl, bsp_intro (fun _ => ?_) (fun h => by simp at h)⟩⟩
      have k816 := k815.trans k16
      refine ⟨(hA w16 (kc8.trans k816)).mono fun e w17 ⟨⟨q5, d5, he, ho5⟩, k17⟩ => ⟨_, _, _, _, _, _, _, _, _, _, _, he, k816.trans k17, ?_⟩⟩
      have k817 := k816.trans k17
      refine ⟨(mequal_any (toM a) (toM a) qa da q5 d5 w17 (hra.k0 k817) (strP_own ho5) (by omega) zx zx).mono fun e w18 ⟨he, k18⟩ => ⟨_, he, .of_k0 (k817.trans k18), ?_, kW.trans (kc8.trans (k817.trans k18))⟩⟩
      rw [eqM_self]; rfl
  · refine fun ny w1 hn => ⟨kc.trans (hn.kp _), ?_⟩
    have hy := hn.block
    have gy := Nat.le_trans kc.size hn.ge
    have kc := kc.trans (hn.kp (fun _ => False))
    refine ⟨?_, ?_⟩
    · refine ⟨(hA _ kc).mono fun e w2 ⟨⟨qa, da, he, ha⟩, kk⟩ => ⟨_, _, _, _, _, _, _, _, _, _, _, he, kc.trans kk, ?_⟩⟩
      have ha := own_base ha kc.size
      have hy := K0.blk_ kk hy
      have kc := kc.trans kk
      refine ⟨?_, ?_⟩
      · refine ⟨(hB _ kc).mono fun e w3 ⟨⟨qb, db, he, hb⟩, kk⟩ => ⟨_, _, _, _, _, _, _, _, _, _, _, he, ?_⟩⟩
        have hb := own_base hb kc.size
        have ha := owns_kp ha kk (fun _ _ h => h)
        have hy := K0.blk_ kk hy
        have kc := kc.trans kk
        refine fun nx w4 hn => ⟨kc.trans (hn.kp _), ?_⟩
        have hx := hn.block
        have gx := Nat.le_trans kc.size hn.ge
        have hne : nx ≠ ny := by have h1 := block_lt hy; have h2 := hn.ge; omega
        have ha := owns_kp ha (hn.kp (fun _ => False)) (fun _ _ h => h)
        have hb := owns_kp hb (hn.kp (fun _ => False)) (fun _ _ h => h)
        have hy := K0.blk_ (hn.kp (fun _ => False)) hy
        have kc := kc.trans (hn.kp (fun _ => False))
        refine ⟨WrL_block hx (Nat.le_refl 9), fun wp hp => ?_⟩
        have ha := owns_kp ha hp.kp (fun k hk e => own_not ha hx rfl (by rw [hk, e]))
        have hb := owns_kp hb hp.kp (fun k hk e => own_not hb hx rfl (by rw [hk, e]))
        have hy := hp.blk hy (fun e => hne e.symm)
        have hx := hp.full hx rfl
        have kc := put_k0 kc hp gx
        refine ⟨WrL_block hy (Nat.le_refl 9), fun wq hp => ?_⟩
        have ha := owns_kp ha hp.kp (fun k hk e => own_not ha hy rfl (by rw [hk, e]))
        have hb := owns_kp hb hp.kp (fun k hk e => own_not hb hy rfl (by rw [hk, e]))
        have hx := hp.blk hx hne
        have hy := hp.full hy rfl
        have kc := put_k0 kc hp gy
        clear hp
        refine ⟨.of_k0 kc, ?_⟩
        intro W8 hW8
        have k8 : K0 wq W8 := hW8.kk rfl
        have kc8 := kc.trans k8
        have hx := K0.blk_ k8 hx
        have hy := K0.blk_ k8 hy
        have hra := (strP_own ha).k0 k8
        have hrb := (strP_own hb).k0 k8
        have hda := own_le ha
        refine ⟨fun wx => K0 W8 wx, .refl _ _, ⟨(known_any W8 (hT.k0 (kW.trans kc8))).mono fun e w9 ⟨he, k9⟩ => ⟨_, he, k9, _, _, _, _, _, _, _, _, _, _, _, gimp_intro fun _ wx k => AtL_block (K0.blk_ k hx) rfl, _, _, _, _, _, _, _, _, _, _, _, gimp_intro fun _ wx k => AtL_block (K0.blk_ k hx) rfl, bsp_intro (fun _ => ?_) (fun h => by cases h)⟩⟩⟩
        refine ⟨(mcheck_any (toM a) qa da w9 (hra.k0 k9) hda (by omega) (by omega)).mono fun e w10 ⟨he, k10⟩ => ⟨_, he, k9.trans k10, ?_⟩⟩
        have k810 := k9.trans k10
        refine ⟨(of_any (toM a) qa da w10 (hra.k0 k810) (by omega)).mono fun e w11 ⟨⟨q2, d2, he, ho2⟩, k11⟩ => ⟨_, _, _, _, _, _, _, _, _, _, _, he, k810.trans k11, ?_⟩⟩
        have k811 := k810.trans k11
        refine ⟨(xcheck_any (toM a) q2 d2 w11 (strP_own ho2) (own_le ho2) ⟨zx.1, zx.2.2.1⟩ (by omega)).mono fun e w12 ⟨he, k12⟩ => ⟨_, he, k811.trans k12, _, _, _, _, _, _, _, _, _, _, _, gimp_intro fun _ wx k => AtL_block (K0.blk_ k hx) rfl, _, _, _, _, _, _, _, _, _, _, _, gimp_intro fun _ wx k => AtL_block (K0.blk_ k hy) rfl, _, _, _, _, _, _, _, _, _, _, _, gimp_intro fun _ wx k => AtL_block (K0.blk_ k hx) rfl, _, _, _, _, _, _, _, _, _, _, _, gimp_intro fun _ wx k => AtL_block (K0.blk_ k hy) rfl, bsp_intro (fun _ => ?_) (fun h => by simp at h)⟩⟩
        have k812 := k811.trans k12
        refine ⟨(mequal_any (toM a) (toM b) qa da qb db w12 (hra.k0 k812) (hrb.k0 k812) (by omega) zx zy).mono fun e w13 ⟨he, k13⟩ => ⟨_, he, k812.trans k13, ?_⟩⟩
        have k813 := k812.trans k13
        refine ⟨(of_any (toM a) qa da w13 (hra.k0 k813) (by omega)).mono fun e w14 ⟨⟨q3, d3, he, ho3⟩, k14⟩ => ⟨_, _, _, _, _, _, _, _, _, _, _, he, k813.trans k14, ?_⟩⟩
        have k814 := k813.trans k14
        refine ⟨(of_any (toM b) qb db w14 (hrb.k0 k814) (by omega)).mono fun e w15 ⟨⟨q4, d4, he, ho4⟩, k15⟩ => ⟨_, _, _, _, _, _, _, _, _, _, _, he, k814.trans k15, ?_⟩⟩
        have k815 := k814.trans k15
        refine ⟨(xsame_any (toM a) (toM b) q3 d3 q4 d4 w15 ((strP_own ho3).k0 k15) (strP_own ho4) (by omega) zx zy).mono fun e w16 ⟨he, k16⟩ => ⟨_, he, k815.trans k16, _, _, _, _, _, _, _, _, _, _, _, gimp_intro fun _ wx k => AtL_block (K0.blk_ k hx) rfl, _, _, _, _, _, _, _, _, _, _, _, gimp_intro fun _ wx k => AtL_block (K0.blk_ (kc8.trans k) hc1) rfl, bsp_intro (fun _ => ?_) (fun h => by simp at h)⟩⟩
        have k816 := k815.trans k16
        refine ⟨(hA w16 (kc8.trans k816)).mono fun e w17 ⟨⟨q5, d5, he, ho5⟩, k17⟩ => ⟨_, _, _, _, _, _, _, _, _, _, _, he, k816.trans k17, ?_⟩⟩
        have k817 := k816.trans k17
        refine ⟨(mequal_any (toM a) (toM a) qa da q5 d5 w17 (hra.k0 k817) (strP_own ho5) (by omega) zx zx).mono fun e w18 ⟨he, k18⟩ => ⟨_, he, .of_k0 (k817.trans k18), ?_, kW.trans (kc8.trans (k817.trans k18))⟩⟩
        rw [eqM_self]; rfl
      · refine fun nx w3 hn => ⟨kc.trans (hn.kp _), ?_⟩
        have hx := hn.block
        have gx := Nat.le_trans kc.size hn.ge
        have hne : nx ≠ ny := by have h1 := block_lt hy; have h2 := hn.ge; omega
        have ha := owns_kp ha (hn.kp (fun _ => False)) (fun _ _ h => h)
        have hy := K0.blk_ (hn.kp (fun _ => False)) hy
        have kc := kc.trans (hn.kp (fun _ => False))
        refine ⟨(hB _ kc).mono fun e w4 ⟨⟨qb, db, he, hb⟩, kk⟩ => ⟨_, _, _, _, _, _, _, _, _, _, _, he, ?_⟩⟩
        have hb := own_base hb kc.size
        have ha := owns_kp ha kk (fun _ _ h => h)
        have hx := K0.blk_ kk hx
        have hy := K0.blk_ kk hy
        have kc := kc.trans kk
        refine ⟨WrL_block hx (Nat.le_refl 9), fun wp hp => ?_⟩
        have ha := owns_kp ha hp.kp (fun k hk e => own_not ha hx rfl (by rw [hk, e]))
        have hb := owns_kp hb hp.kp (fun k hk e => own_not hb hx rfl (by rw [hk, e]))
        have hy := hp.blk hy (fun e => hne e.symm)
        have hx := hp.full hx rfl
        have kc := put_k0 kc hp gx
        refine ⟨WrL_block hy (Nat.le_refl 9), fun wq hp => ?_⟩
        have ha := owns_kp ha hp.kp (fun k hk e => own_not ha hy rfl (by rw [hk, e]))
        have hb := owns_kp hb hp.kp (fun k hk e => own_not hb hy rfl (by rw [hk, e]))
        have hx := hp.blk hx hne
        have hy := hp.full hy rfl
        have kc := put_k0 kc hp gy
        clear hp
        refine ⟨.of_k0 kc, ?_⟩
        intro W8 hW8
        have k8 : K0 wq W8 := hW8.kk rfl
        have kc8 := kc.trans k8
        have hx := K0.blk_ k8 hx
        have hy := K0.blk_ k8 hy
        have hra := (strP_own ha).k0 k8
        have hrb := (strP_own hb).k0 k8
        have hda := own_le ha
        refine ⟨fun wx => K0 W8 wx, .refl _ _, ⟨(known_any W8 (hT.k0 (kW.trans kc8))).mono fun e w9 ⟨he, k9⟩ => ⟨_, he, k9, _, _, _, _, _, _, _, _, _, _, _, gimp_intro fun _ wx k => AtL_block (K0.blk_ k hx) rfl, _, _, _, _, _, _, _, _, _, _, _, gimp_intro fun _ wx k => AtL_block (K0.blk_ k hx) rfl, bsp_intro (fun _ => ?_) (fun h => by cases h)⟩⟩⟩
        refine ⟨(mcheck_any (toM a) qa da w9 (hra.k0 k9) hda (by omega) (by omega)).mono fun e w10 ⟨he, k10⟩ => ⟨_, he, k9.trans k10, ?_⟩⟩
        have k810 := k9.trans k10
        refine ⟨(of_any (toM a) qa da w10 (hra.k0 k810) (by omega)).mono fun e w11 ⟨⟨q2, d2, he, ho2⟩, k11⟩ => ⟨_, _, _, _, _, _, _, _, _, _, _, he, k810.trans k11, ?_⟩⟩
        have k811 := k810.trans k11
        refine ⟨(xcheck_any (toM a) q2 d2 w11 (strP_own ho2) (own_le ho2) ⟨zx.1, zx.2.2.1⟩ (by omega)).mono fun e w12 ⟨he, k12⟩ => ⟨_, he, k811.trans k12, _, _, _, _, _, _, _, _, _, _, _, gimp_intro fun _ wx k => AtL_block (K0.blk_ k hx) rfl, _, _, _, _, _, _, _, _, _, _, _, gimp_intro fun _ wx k => AtL_block (K0.blk_ k hy) rfl, _, _, _, _, _, _, _, _, _, _, _, gimp_intro fun _ wx k => AtL_block (K0.blk_ k hx) rfl, _, _, _, _, _, _, _, _, _, _, _, gimp_intro fun _ wx k => AtL_block (K0.blk_ k hy) rfl, bsp_intro (fun _ => ?_) (fun h => by simp at h)⟩⟩
        have k812 := k811.trans k12
        refine ⟨(mequal_any (toM a) (toM b) qa da qb db w12 (hra.k0 k812) (hrb.k0 k812) (by omega) zx zy).mono fun e w13 ⟨he, k13⟩ => ⟨_, he, k812.trans k13, ?_⟩⟩
        have k813 := k812.trans k13
        refine ⟨(of_any (toM a) qa da w13 (hra.k0 k813) (by omega)).mono fun e w14 ⟨⟨q3, d3, he, ho3⟩, k14⟩ => ⟨_, _, _, _, _, _, _, _, _, _, _, he, k813.trans k14, ?_⟩⟩
        have k814 := k813.trans k14
        refine ⟨(of_any (toM b) qb db w14 (hrb.k0 k814) (by omega)).mono fun e w15 ⟨⟨q4, d4, he, ho4⟩, k15⟩ => ⟨_, _, _, _, _, _, _, _, _, _, _, he, k814.trans k15, ?_⟩⟩
        have k815 := k814.trans k15
        refine ⟨(xsame_any (toM a) (toM b) q3 d3 q4 d4 w15 ((strP_own ho3).k0 k15) (strP_own ho4) (by omega) zx zy).mono fun e w16 ⟨he, k16⟩ => ⟨_, he, k815.trans k16, _, _, _, _, _, _, _, _, _, _, _, gimp_intro fun _ wx k => AtL_block (K0.blk_ k hx) rfl, _, _, _, _, _, _, _, _, _, _, _, gimp_intro fun _ wx k => AtL_block (K0.blk_ (kc8.trans k) hc1) rfl, bsp_intro (fun _ => ?_) (fun h => by simp at h)⟩⟩
        have k816 := k815.trans k16
        refine ⟨(hA w16 (kc8.trans k816)).mono fun e w17 ⟨⟨q5, d5, he, ho5⟩, k17⟩ => ⟨_, _, _, _, _, _, _, _, _, _, _, he, k816.trans k17, ?_⟩⟩
        have k817 := k816.trans k17
        refine ⟨(mequal_any (toM a) (toM a) qa da q5 d5 w17 (hra.k0 k817) (strP_own ho5) (by omega) zx zx).mono fun e w18 ⟨he, k18⟩ => ⟨_, he, .of_k0 (k817.trans k18), ?_, kW.trans (kc8.trans (k817.trans k18))⟩⟩
        rw [eqM_self]; rfl
    · refine fun nx w2 hn => ⟨kc.trans (hn.kp _), ?_⟩
      have hx := hn.block
      have gx := Nat.le_trans kc.size hn.ge
      have hne : nx ≠ ny := by have h1 := block_lt hy; have h2 := hn.ge; omega
      have hy := K0.blk_ (hn.kp (fun _ => False)) hy
      have kc := kc.trans (hn.kp (fun _ => False))
      refine ⟨(hA _ kc).mono fun e w3 ⟨⟨qa, da, he, ha⟩, kk⟩ => ⟨_, _, _, _, _, _, _, _, _, _, _, he, kc.trans kk, ?_⟩⟩
      have ha := own_base ha kc.size
      have hx := K0.blk_ kk hx
      have hy := K0.blk_ kk hy
      have kc := kc.trans kk
      refine ⟨(hB _ kc).mono fun e w4 ⟨⟨qb, db, he, hb⟩, kk⟩ => ⟨_, _, _, _, _, _, _, _, _, _, _, he, ?_⟩⟩
      have hb := own_base hb kc.size
      have ha := owns_kp ha kk (fun _ _ h => h)
      have hx := K0.blk_ kk hx
      have hy := K0.blk_ kk hy
      have kc := kc.trans kk
      refine ⟨WrL_block hx (Nat.le_refl 9), fun wp hp => ?_⟩
      have ha := owns_kp ha hp.kp (fun k hk e => own_not ha hx rfl (by rw [hk, e]))
      have hb := owns_kp hb hp.kp (fun k hk e => own_not hb hx rfl (by rw [hk, e]))
      have hy := hp.blk hy (fun e => hne e.symm)
      have hx := hp.full hx rfl
      have kc := put_k0 kc hp gx
      refine ⟨WrL_block hy (Nat.le_refl 9), fun wq hp => ?_⟩
      have ha := owns_kp ha hp.kp (fun k hk e => own_not ha hy rfl (by rw [hk, e]))
      have hb := owns_kp hb hp.kp (fun k hk e => own_not hb hy rfl (by rw [hk, e]))
      have hx := hp.blk hx hne
      have hy := hp.full hy rfl
      have kc := put_k0 kc hp gy
      clear hp
      refine ⟨.of_k0 kc, ?_⟩
      intro W8 hW8
      have k8 : K0 wq W8 := hW8.kk rfl
      have kc8 := kc.trans k8
      have hx := K0.blk_ k8 hx
      have hy := K0.blk_ k8 hy
      have hra := (strP_own ha).k0 k8
      have hrb := (strP_own hb).k0 k8
      have hda := own_le ha
      refine ⟨fun wx => K0 W8 wx, .refl _ _, ⟨(known_any W8 (hT.k0 (kW.trans kc8))).mono fun e w9 ⟨he, k9⟩ => ⟨_, he, k9, _, _, _, _, _, _, _, _, _, _, _, gimp_intro fun _ wx k => AtL_block (K0.blk_ k hx) rfl, _, _, _, _, _, _, _, _, _, _, _, gimp_intro fun _ wx k => AtL_block (K0.blk_ k hx) rfl, bsp_intro (fun _ => ?_) (fun h => by cases h)⟩⟩⟩
      refine ⟨(mcheck_any (toM a) qa da w9 (hra.k0 k9) hda (by omega) (by omega)).mono fun e w10 ⟨he, k10⟩ => ⟨_, he, k9.trans k10, ?_⟩⟩
      have k810 := k9.trans k10
      refine ⟨(of_any (toM a) qa da w10 (hra.k0 k810) (by omega)).mono fun e w11 ⟨⟨q2, d2, he, ho2⟩, k11⟩ => ⟨_, _, _, _, _, _, _, _, _, _, _, he, k810.trans k11, ?_⟩⟩
      have k811 := k810.trans k11
      refine ⟨(xcheck_any (toM a) q2 d2 w11 (strP_own ho2) (own_le ho2) ⟨zx.1, zx.2.2.1⟩ (by omega)).mono fun e w12 ⟨he, k12⟩ => ⟨_, he, k811.trans k12, _, _, _, _, _, _, _, _, _, _, _, gimp_intro fun _ wx k => AtL_block (K0.blk_ k hx) rfl, _, _, _, _, _, _, _, _, _, _, _, gimp_intro fun _ wx k => AtL_block (K0.blk_ k hy) rfl, _, _, _, _, _, _, _, _, _, _, _, gimp_intro fun _ wx k => AtL_block (K0.blk_ k hx) rfl, _, _, _, _, _, _, _, _, _, _, _, gimp_intro fun _ wx k => AtL_block (K0.blk_ k hy) rfl, bsp_intro (fun _ => ?_) (fun h => by simp at h)⟩⟩
      have k812 := k811.trans k12
      refine ⟨(mequal_any (toM a) (toM b) qa da qb db w12 (hra.k0 k812) (hrb.k0 k812) (by omega) zx zy).mono fun e w13 ⟨he, k13⟩ => ⟨_, he, k812.trans k13, ?_⟩⟩
      have k813 := k812.trans k13
      refine ⟨(of_any (toM a) qa da w13 (hra.k0 k813) (by omega)).mono fun e w14 ⟨⟨q3, d3, he, ho3⟩, k14⟩ => ⟨_, _, _, _, _, _, _, _, _, _, _, he, k813.trans k14, ?_⟩⟩
      have k814 := k813.trans k14
      refine ⟨(of_any (toM b) qb db w14 (hrb.k0 k814) (by omega)).mono fun e w15 ⟨⟨q4, d4, he, ho4⟩, k15⟩ => ⟨_, _, _, _, _, _, _, _, _, _, _, he, k814.trans k15, ?_⟩⟩
      have k815 := k814.trans k15
      refine ⟨(xsame_any (toM a) (toM b) q3 d3 q4 d4 w15 ((strP_own ho3).k0 k15) (strP_own ho4) (by omega) zx zy).mono fun e w16 ⟨he, k16⟩ => ⟨_, he, k815.trans k16, _, _, _, _, _, _, _, _, _, _, _, gimp_intro fun _ wx k => AtL_block (K0.blk_ k hx) rfl, _, _, _, _, _, _, _, _, _, _, _, gimp_intro fun _ wx k => AtL_block (K0.blk_ (kc8.trans k) hc1) rfl, bsp_intro (fun _ => ?_) (fun h => by simp at h)⟩⟩
      have k816 := k815.trans k16
      refine ⟨(hA w16 (kc8.trans k816)).mono fun e w17 ⟨⟨q5, d5, he, ho5⟩, k17⟩ => ⟨_, _, _, _, _, _, _, _, _, _, _, he, k816.trans k17, ?_⟩⟩
      have k817 := k816.trans k17
      refine ⟨(mequal_any (toM a) (toM a) qa da q5 d5 w17 (hra.k0 k817) (strP_own ho5) (by omega) zx zx).mono fun e w18 ⟨he, k18⟩ => ⟨_, he, .of_k0 (k817.trans k18), ?_, kW.trans (kc8.trans (k817.trans k18))⟩⟩
      rw [eqM_self]; rfl

end Go.Proofs.YtmlmdljnfokebaaDoor
