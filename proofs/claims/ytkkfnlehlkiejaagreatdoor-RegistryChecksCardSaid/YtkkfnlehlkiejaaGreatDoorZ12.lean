/- Chapter 21: RegistryAuthorities always returns true. The library's variable MaxLen holds a number. -/
import Derived.Test.YtkkfnlehlkiejaaGreatDoorZ10
import Derived.Test.YtkkfnlehlkiejaaGreatDoorZ11
import Derived.Test.YtkkfnlehlkiejaaGreatDoorZ05
import Derived.Test.YtkkfnlehlkiejaaGreatDoorZ07
namespace Go.Proofs.YtkkfnlehlkiejaaGreatDoor
open Go.RowKit Go.Maps

theorem autL_BY {l : List Au} (h : ∀ x ∈ l, BY x.au) : ∀ x ∈ autL l, BY x.au := fun x hx => by
  obtain ⟨y, hy, rfl⟩ := List.mem_map.1 hx
  exact h y (List.mem_of_mem_take hy)
theorem autL_sz {l : List Au} : ∀ x ∈ autL l, x.pt.size ≤ 1073741824 := fun x hx => by
  obtain ⟨y, _, rfl⟩ := List.mem_map.1 hx
  have := cutA_sz y
  omega
set_option maxHeartbeats 2000000 in
theorem lrauth_any (l : List Au) (p : Option Addr) (c : Nat) (s : ByteArray) (a : Nat → Int) (w : World) (hR : RowA atC 17 w p l) (hb : ∀ x ∈ l, BY x.au) (ha : BY a) (hG : GW w) :
    Calls Tryz.prog 3 #[.slice p l.length c, .string s, .agg (arrI .u8 a 16 0).toArray] w fun e w' => e = .returned (.bool true) ∧ K0 w w' := by
  refine vc_lrauth p l.length c s a w _ (fun n1 W hW => ?_)
  have kW : K0 w W := hW.kk rfl
  have b1 := hW.cells 0 rfl
  refine ⟨(lauths_any l p c W (hR.k0 kW)).mono fun e w1 ⟨⟨p1, c1, p2, c2, he, hr1, hr2⟩, k1⟩ => ⟨_, _, _, _, _, _, he, .of_k0 k1, ⟨by split <;> omega, by split <;> omega⟩, ?_⟩⟩
  have hsz : (s.extract 0 (if (100 : Int) < (s.size : Int) then (100 : Int) else (s.size : Int)).toNat).size ≤ 100 := by rw [ByteArray.size_extract]; split <;> omega
  generalize s.extract 0 _ = s' at *
  have hB := autL_BY hb
  have hS := @autL_sz l
  generalize autL l = A at *
  have k01 := kW.trans k1
  have hG' : ∀ {wa : World}, K0 w wa → GW wa := fun k => hG.kp k (fun h => h)
  refine ⟨(rnew_any A p1 c1 w1 hr1 hB hS (hG' k01)).mono fun e w2 ⟨hQ, k2⟩ => ?_⟩
  have k02 := k01.trans k2
  rcases hQ with ⟨h64, he⟩ | ⟨h64, hne, he⟩ | ⟨h64, hz, b, mb, he, hReg, _, _⟩
  · refine ⟨_, _, _, he, .of_k0 k2, ⟨(xnew_any A p2 c2 w2 (hr2.k0 k2) hS).mono fun e w3 ⟨hQ, k3⟩ => ?_⟩⟩
    rcases hQ with ⟨_, he⟩ | ⟨h, _⟩ | ⟨h, _⟩
    · refine ⟨_, _, _, _, _, _, _, _, he, .of_k0 k3, fun n4 => bsp_intro (fun _ => fun W4 hW4 => ?_) (fun h => by cases h)⟩
      have k4 : K0 w3 W4 := hW4.kk rfl
      have k04 := (k02.trans k3).trans k4
      exact ⟨(known_any W4 (hG' k04)).mono fun e w5 ⟨he, k5⟩ => ⟨_, he, .of_k0 k5, rfl, k04.trans k5⟩⟩
    · omega
    · omega
  · refine ⟨_, _, _, he, .of_k0 k2, ⟨(xnew_any A p2 c2 w2 (hr2.k0 k2) hS).mono fun e w3 ⟨hQ, k3⟩ => ?_⟩⟩
    rcases hQ with ⟨h, _⟩ | ⟨_, _, he⟩ | ⟨_, h, _⟩
    · omega
    · have hc : ((newE A 0).2 != 0) = true := by simpa using hne
      refine ⟨_, _, _, _, _, _, _, _, he, .of_k0 k3, fun n4 => bsp_intro (fun _ => fun W4 hW4 => ?_) (fun h => by rw [hc] at h; cases h)⟩
      have k4 : K0 w3 W4 := hW4.kk rfl
      have k04 := (k02.trans k3).trans k4
      exact ⟨(known_any W4 (hG' k04)).mono fun e w5 ⟨he, k5⟩ => ⟨_, he, .of_k0 k5, by simp, k04.trans k5⟩⟩
    · rw [h] at hne; exact absurd rfl hne
  · refine ⟨_, _, _, he, .of_k0 k2, ⟨(xnew_any A p2 c2 w2 (hr2.k0 k2) hS).mono fun e w3 ⟨hQ, k3⟩ => ?_⟩⟩
    rcases hQ with ⟨h, _⟩ | ⟨_, h, _⟩ | ⟨_, _, ap, ac, he, hra⟩
    · omega
    · rw [hz] at h; exact absurd rfl h
    · refine ⟨_, _, _, _, _, _, _, _, he, .of_k0 k3, fun n4 => bsp_intro (fun h => by cases h) (fun _ => fun W4 hW4 => ?_)⟩
      have k4 : K0 w3 W4 := hW4.kk rfl
      have k04 := (k02.trans k3).trans k4
      have b4 := hW4.cells 0 rfl
      have b14 := hW4.cells 1 rfl
      refine ⟨fun wx => K0 W4 wx, .refl _ _, ⟨(known_any W4 (hG' k04)).mono fun e w5 ⟨he, k5⟩ => ⟨_, he, k5, a, gimp_intro fun _ wx k => AtL_block (k.blk b14 (fun h => h)) rfl, ap, A.length, ac, none, 0, 0, gimp_intro fun _ wx k => AtL_block (k.blk b4 (fun h => h)) rfl, a, gimp_intro fun _ wx k => AtL_block (k.blk b14 (fun h => h)) rfl, bsp_intro (fun _ => ?_) (fun h => by cases h)⟩⟩⟩
      have hall := newE_all A 0 (by rw [hz])
      have k25 := (k3.trans k4).trans k5
      refine ⟨(risauth_any (hReg.st.k0 k25) hB h64 s' a ha (by omega)).mono fun e w6 ⟨he, k6⟩ => ⟨_, he, k5.trans k6, ?_⟩⟩
      refine ⟨(xauth_any A ap ac none 0 0 s' a w6 (hra.k0 ((k4.trans k5).trans k6)) hB h64 hall hS ha (by omega)).mono fun e w7 ⟨he, k7⟩ => ⟨_, he, .of_k0 ((k5.trans k6).trans k7), by simp, ((k04.trans k5).trans k6).trans k7⟩⟩

end Go.Proofs.YtkkfnlehlkiejaaGreatDoor

/- Rows and blocks of different types are apart. Generic: no program, no condition. -/
namespace Go.Proofs.YtkkfnlehlkiejaaGreatDoor
open Go.RowKit

theorem own_not {w : World} {base : Nat} {e t : TypeId} {size : Nat} {v : Value} {n : Nat} {xs : List Value} (h : w.ownsRow base e size v n xs) {k : Nat} {c : Array Value} {f : Nat × Nat} (hk : w.heap[k]? = some (.cells c t f)) (hne : (t == e) = false) : ¬ v.ownBlock = some k := fun he => by
  obtain ⟨c', h1⟩ := own_type h he
  rw [hk] at h1
  simp at h1
  rw [h1.2.1] at hne
  simp at hne
theorem own_loc {z : Nat} {T : List Blk} {w W : World} {base : Nat} {e : TypeId} {size : Nat} {v : Value} {n : Nat} {xs : List Value} (ho : w.ownsRow base e size v n xs) (hL : Loc z T w W) (hT : ∀ b ∈ T, ¬ v.ownBlock = some b.n) : W.ownsRow base e size v n xs :=
  owns_kp ho hL.kp (fun k hk ⟨x, hx, h3, h4⟩ => hT x hx (by rw [hk]; first | rw [h4] | rw [← h4]))
theorem src_str {w : World} {p : Option Addr} {l : List ByteArray} (h : StrP w p l) : SrcP w p (l.map .string) := by
  refine ⟨fun j u hj => ?_, fun u hu => ?_⟩
  · rw [List.getElem?_map] at hj
    cases hz : l[j]? with
    | none => rw [hz] at hj; cases hj
    | some z => rw [hz] at hj; cases hj; exact h j z hz
  · obtain ⟨z, _, rfl⟩ := List.mem_map.1 hu; rfl
theorem blk_ne {w : World} {a b : Nat} {c c' : Array Value} {t t' : TypeId} {f f' : Nat × Nat} (h : w.heap[a]? = some (.cells c t f)) (h' : w.heap[b]? = some (.cells c' t' f')) (hne : (t == t') = false) : a ≠ b := fun e => by
  subst e
  rw [h] at h'
  simp at h'
  rw [h'.2.1] at hne
  simp at hne

end Go.Proofs.YtkkfnlehlkiejaaGreatDoor

/- Chapter 21: RegistryChecks on worlds. No condition but what a reading gives. (Printed by mkchk21.py.) -/
namespace Go.Proofs.YtkkfnlehlkiejaaGreatDoor
open Go.RowKit Go.Maps

theorem K0.blk_ {w w' : World} (h : K0 w w') {n : Nat} {x : Obj} (hx : w.heap[n]? = some x) : w'.heap[n]? = some x := h.blk hx (fun h => h)
theorem dEq_self (d : Df) : dEq d d = true := dEq_iff.2 rfl
theorem toD_len (d : Df) : (toD d).ms.length ≤ 10 := by show (d.ms.take 10).length ≤ 10; rw [List.length_take]; omega
set_option maxRecDepth 100000 in
set_option maxHeartbeats 8000000 in
theorem lrchecks_any (a b : DX) (w : World) (hRa : DfR w a) (hRb : DfR w b) (hG : GW w) :
    Calls Tryz.prog 6 #[dfV a, dfV b] w fun e w' => e = .returned (.bool true) ∧ K0 w w' := by
  refine vc_lrchecks a.d.id a.d.au a.d.g a.d.v a.d.rm a.d.md a.p a.d.ms.length a.c a.d.tx b.d.id b.d.au b.d.g b.d.v b.d.rm b.d.md b.p b.d.ms.length b.c b.d.tx w _ (fun n1 n2 W hW => ?_)
  have kW : K0 w W := hW.kk rfl
  have hc1 := hW.cells 1 rfl
  have hc2 := hW.cells 0 rfl
  have hA := fun (wx : World) (k : K0 W wx) => lto_any a wx (hRa.row.k0 (kW.trans k))
  have hB := fun (wx : World) (k : K0 W wx) => lto_any b wx (hRb.row.k0 (kW.trans k))
  have zx := toD_OK hRa.ok
  have zy := toD_OK hRb.ok
  have lx := toD_len a.d
  have ly := toD_len b.d
  have hG' : ∀ {wa : World}, K0 w wa → GW wa := fun k => hG.kp k (fun h => h)
  refine ⟨fun wx => K0 W wx, .refl _ _, _, _, _, _, _, _, _, _, _, _, fun wx k => AtL_block (k.blk hc1 (fun h => h)) rfl, _, _, _, _, _, _, _, _, _, _, fun wx k => AtL_block (k.blk hc2 (fun h => h)) rfl, ?_⟩
  have kc : K0 W W := .refl _ _
  refine ⟨?_, ?_, ?_⟩
  · refine ⟨(hA _ kc).mono fun e w1 ⟨⟨qa, da, he, ha⟩, kk⟩ => ⟨_, _, _, _, _, _, _, _, _, _, he, kc.trans kk, ?_⟩⟩
    have ha := own_base ha kc.size
    have kc := kc.trans kk
    refine ⟨?_, ?_, ?_⟩
    · refine ⟨(hB _ kc).mono fun e w2 ⟨⟨qb, db, he, hb⟩, kk⟩ => ⟨_, _, _, _, _, _, _, _, _, _, he, ?_⟩⟩
      have hb := own_base hb kc.size
      have ha := owns_kp ha kk (fun _ _ h => h)
      have kc := kc.trans kk
      refine ⟨?_, ?_⟩
      · refine fun nx w3 hn => ⟨kc.trans (hn.kp _), ?_⟩
        have hx := hn.block
        have gx := Nat.le_trans kc.size hn.ge
        have ha := owns_kp ha (hn.kp (fun _ => False)) (fun _ _ h => h)
        have hb := owns_kp hb (hn.kp (fun _ => False)) (fun _ _ h => h)
        have kc := kc.trans (hn.kp (fun _ => False))
        refine fun ny w4 hn => ⟨kc.trans (hn.kp _), ?_⟩
        have hy := hn.block
        have gy := Nat.le_trans kc.size hn.ge
        have hne : nx ≠ ny := by have h1 := block_lt hx; have h2 := hn.ge; omega
        have ha := owns_kp ha (hn.kp (fun _ => False)) (fun _ _ h => h)
        have hb := owns_kp hb (hn.kp (fun _ => False)) (fun _ _ h => h)
        have hx := K0.blk_ (hn.kp (fun _ => False)) hx
        have kc := kc.trans (hn.kp (fun _ => False))
        refine ⟨WrL_block hx (Nat.le_refl 54), fun wp hp => ?_⟩
        have ha := owns_kp ha hp.kp (fun k hk e => own_not ha hx rfl (by rw [hk, e]))
        have hb := owns_kp hb hp.kp (fun k hk e => own_not hb hx rfl (by rw [hk, e]))
        have hy := hp.blk hy (fun e => hne e.symm)
        have hx := hp.full hx rfl
        have kc := put_k0 kc hp gx
        refine ⟨WrL_block hy (Nat.le_refl 54), fun wq hp => ?_⟩
        have ha := owns_kp ha hp.kp (fun k hk e => own_not ha hy rfl (by rw [hk, e]))
        have hb := owns_kp hb hp.kp (fun k hk e => own_not hb hy rfl (by rw [hk, e]))
        have hx := hp.blk hx hne
        have hy := hp.full hy rfl
        have kc := put_k0 kc hp gy
        clear hp
        refine ⟨.of_k0 kc, ?_⟩
        intro W8 hW8
        have k8 : K0 wq W8 := hW8.kk rfl
        have kc8 := kc.trans k8
        have hx := K0.blk_ k8 hx
        have hy := K0.blk_ k8 hy
        have hra := (MO.row ha).k0 k8
        have hrb := (MO.row hb).k0 k8
        have hda := own_le ha
        refine ⟨fun wx => K0 W8 wx, .refl _ _, ⟨(known_any W8 (hG' (kW.trans kc8))).mono fun e w9 ⟨he, k9⟩ => ⟨_, he, k9, _, _, _, _, _, _, _, _, _, _, gimp_intro fun _ wx k => AtL_block (K0.blk_ k hx) rfl, _, _, _, _, _, _, _, _, _, _, gimp_intro fun _ wx k => AtL_block (K0.blk_ k hx) rfl, bsp_intro (fun _ => ?_) (fun h => by cases h)⟩⟩⟩
        refine ⟨(dcheck_any ⟨toD a.d, qa, da⟩ w9 (hra.k0 k9) hda zx (hG' (kW.trans (kc8.trans k9)))).mono fun e w10 ⟨he, k10⟩ => ⟨_, he, k9.trans k10, ?_⟩⟩
        have k810 := k9.trans k10
        refine ⟨(lof_any ⟨toD a.d, qa, da⟩ w10 (hra.k0 k810) (Nat.le_trans lx (by decide))).mono fun e w11 ⟨⟨q2, d2, he, ho2⟩, k11⟩ => ⟨_, _, _, _, _, _, _, _, _, _, he, k810.trans k11, ?_⟩⟩
        have k811 := k810.trans k11
        refine ⟨(xcheck_any ⟨toD a.d, q2, d2⟩ w11 (MOr.row ho2) zx).mono fun e w12 ⟨he, k12⟩ => ⟨_, he, k811.trans k12, _, _, _, _, _, _, _, _, _, _, gimp_intro fun _ wx k => AtL_block (K0.blk_ k hx) rfl, _, _, _, _, _, _, _, _, _, _, gimp_intro fun _ wx k => AtL_block (K0.blk_ (kc8.trans k) hc1) rfl, bsp_intro (fun _ => ?_) (fun h => by simp at h)⟩⟩
        have k812 := k811.trans k12
        refine ⟨(hA w12 (kc8.trans k812)).mono fun e w13 ⟨⟨q5, d5, he, ho5⟩, k13⟩ => ⟨_, _, _, _, _, _, _, _, _, _, he, k812.trans k13, ?_⟩⟩
        have k813 := k812.trans k13
        refine ⟨(dequal_any ⟨toD a.d, qa, da⟩ ⟨toD a.d, q5, d5⟩ w13 (hra.k0 k813) (MO.row ho5) zx zx (Nat.le_trans lx (by decide))).mono fun e w14 ⟨he, k14⟩ => ⟨_, he, k813.trans k14, _, _, _, _, _, _, _, _, _, _, gimp_intro fun _ wx k => AtL_block (K0.blk_ k hx) rfl, _, _, _, _, _, _, _, _, _, _, gimp_intro fun _ wx k => AtL_block (K0.blk_ k hy) rfl, _, _, _, _, _, _, _, _, _, _, gimp_intro fun _ wx k => AtL_block (K0.blk_ k hx) rfl, _, _, _, _, _, _, _, _, _, _, gimp_intro fun _ wx k => AtL_block (K0.blk_ k hy) rfl, bsp_intro (fun _ => ?_) (fun h => by rw [dEq_self] at h; cases h)⟩⟩
        have k814 := k813.trans k14
        refine ⟨(dequal_any ⟨toD a.d, qa, da⟩ ⟨toD b.d, qb, db⟩ w14 (hra.k0 k814) (hrb.k0 k814) zx zy (Nat.le_trans lx (by decide))).mono fun e w15 ⟨he, k15⟩ => ⟨_, he, k814.trans k15, ?_⟩⟩
        have k815 := k814.trans k15
        refine ⟨(lof_any ⟨toD a.d, qa, da⟩ w15 (hra.k0 k815) (Nat.le_trans lx (by decide))).mono fun e w16 ⟨⟨q3, d3, he, ho3⟩, k16⟩ => ⟨_, _, _, _, _, _, _, _, _, _, he, k815.trans k16, ?_⟩⟩
        have k816 := k815.trans k16
        refine ⟨(lof_any ⟨toD b.d, qb, db⟩ w16 (hrb.k0 k816) (Nat.le_trans ly (by decide))).mono fun e w17 ⟨⟨q4, d4, he, ho4⟩, k17⟩ => ⟨_, _, _, _, _, _, _, _, _, _, he, ?_⟩⟩
        have k817 := k816.trans k17
        refine ⟨(xsame_any ⟨toD a.d, q3, d3⟩ ⟨toD b.d, q4, d4⟩ w17 ((MOr.row ho3).k0 k17) (MOr.row ho4) zx zy (Nat.le_trans lx (by decide))).mono fun e w18 ⟨he, k18⟩ => ⟨_, he, .of_k0 (k817.trans k18), ?_, kW.trans (kc8.trans (k817.trans k18))⟩⟩
        generalize dEq (toD a.d) (toD b.d) = z
        cases z <;> rfl
      · refine fun ny w3 hn => ⟨kc.trans (hn.kp _), ?_⟩
        have hy := hn.block
        have gy := Nat.le_trans kc.size hn.ge
        have ha := owns_kp ha (hn.kp (fun _ => False)) (fun _ _ h => h)
        have hb := owns_kp hb (hn.kp (fun _ => False)) (fun _ _ h => h)
        have kc := kc.trans (hn.kp (fun _ => False))
        refine fun nx w4 hn => ⟨kc.trans (hn.kp _), ?_⟩
        have hx := hn.block
        have gx := Nat.le_trans kc.size hn.ge
        have hne : nx ≠ ny := by have h1 := block_lt hy; have h2 := hn.ge; omega
        have ha := owns_kp ha (hn.kp (fun _ => False)) (fun _ _ h => h)
        have hb := owns_kp hb (hn.kp (fun _ => False)) (fun _ _ h => h)
        have hy := K0.blk_ (hn.kp (fun _ => False)) hy
        have kc := kc.trans (hn.kp (fun _ => False))
        refine ⟨WrL_block hx (Nat.le_refl 54), fun wp hp => ?_⟩
        have ha := owns_kp ha hp.kp (fun k hk e => own_not ha hx rfl (by rw [hk, e]))
        have hb := owns_kp hb hp.kp (fun k hk e => own_not hb hx rfl (by rw [hk, e]))
        have hy := hp.blk hy (fun e => hne e.symm)
        have hx := hp.full hx rfl
        have kc := put_k0 kc hp gx
        refine ⟨WrL_block hy (Nat.le_refl 54), fun wq hp => ?_⟩
        have ha := owns_kp ha hp.kp (fun k hk e => own_not ha hy rfl (by rw [hk, e]))
        have hb := owns_kp hb hp.kp (fun k hk e => own_not hb hy rfl (by rw [hk, e]))
        have hx := hp.blk hx hne
        have hy := hp.full hy rfl
        have kc := put_k0 kc hp gy
        clear hp
        refine ⟨.of_k0 kc, ?_⟩
        intro W8 hW8
        have k8 : K0 wq W8 := hW8.kk rfl
        have kc8 := kc.trans k8
        have hx := K0.blk_ k8 hx
        have hy := K0.blk_ k8 hy
        have hra := (MO.row ha).k0 k8
        have hrb := (MO.row hb).k0 k8
        have hda := own_le ha
        refine ⟨fun wx => K0 W8 wx, .refl _ _, ⟨(known_any W8 (hG' (kW.trans kc8))).mono fun e w9 ⟨he, k9⟩ => ⟨_, he, k9, _, _, _, _, _, _, _, _, _, _, gimp_intro fun _ wx k => AtL_block (K0.blk_ k hx) rfl, _, _, _, _, _, _, _, _, _, _, gimp_intro fun _ wx k => AtL_block (K0.blk_ k hx) rfl, bsp_intro (fun _ => ?_) (fun h => by cases h)⟩⟩⟩
        refine ⟨(dcheck_any ⟨toD a.d, qa, da⟩ w9 (hra.k0 k9) hda zx (hG' (kW.trans (kc8.trans k9)))).mono fun e w10 ⟨he, k10⟩ => ⟨_, he, k9.trans k10, ?_⟩⟩
        have k810 := k9.trans k10
        refine ⟨(lof_any ⟨toD a.d, qa, da⟩ w10 (hra.k0 k810) (Nat.le_trans lx (by decide))).mono fun e w11 ⟨⟨q2, d2, he, ho2⟩, k11⟩ => ⟨_, _, _, _, _, _, _, _, _, _, he, k810.trans k11, ?_⟩⟩
        have k811 := k810.trans k11
        refine ⟨(xcheck_any ⟨toD a.d, q2, d2⟩ w11 (MOr.row ho2) zx).mono fun e w12 ⟨he, k12⟩ => ⟨_, he, k811.trans k12, _, _, _, _, _, _, _, _, _, _, gimp_intro fun _ wx k => AtL_block (K0.blk_ k hx) rfl, _, _, _, _, _, _, _, _, _, _, gimp_intro fun _ wx k => AtL_block (K0.blk_ (kc8.trans k) hc1) rfl, bsp_intro (fun _ => ?_) (fun h => by simp at h)⟩⟩
        have k812 := k811.trans k12
        refine ⟨(hA w12 (kc8.trans k812)).mono fun e w13 ⟨⟨q5, d5, he, ho5⟩, k13⟩ => ⟨_, _, _, _, _, _, _, _, _, _, he, k812.trans k13, ?_⟩⟩
        have k813 := k812.trans k13
        refine ⟨(dequal_any ⟨toD a.d, qa, da⟩ ⟨toD a.d, q5, d5⟩ w13 (hra.k0 k813) (MO.row ho5) zx zx (Nat.le_trans lx (by decide))).mono fun e w14 ⟨he, k14⟩ => ⟨_, he, k813.trans k14, _, _, _, _, _, _, _, _, _, _, gimp_intro fun _ wx k => AtL_block (K0.blk_ k hx) rfl, _, _, _, _, _, _, _, _, _, _, gimp_intro fun _ wx k => AtL_block (K0.blk_ k hy) rfl, _, _, _, _, _, _, _, _, _, _, gimp_intro fun _ wx k => AtL_block (K0.blk_ k hx) rfl, _, _, _, _, _, _, _, _, _, _, gimp_intro fun _ wx k => AtL_block (K0.blk_ k hy) rfl, bsp_intro (fun _ => ?_) (fun h => by rw [dEq_self] at h; cases h)⟩⟩
        have k814 := k813.trans k14
        refine ⟨(dequal_any ⟨toD a.d, qa, da⟩ ⟨toD b.d, qb, db⟩ w14 (hra.k0 k814) (hrb.k0 k814) zx zy (Nat.le_trans lx (by decide))).mono fun e w15 ⟨he, k15⟩ => ⟨_, he, k814.trans k15, ?_⟩⟩
        have k815 := k814.trans k15
        refine ⟨(lof_any ⟨toD a.d, qa, da⟩ w15 (hra.k0 k815) (Nat.le_trans lx (by decide))).mono fun e w16 ⟨⟨q3, d3, he, ho3⟩, k16⟩ => ⟨_, _, _, _, _, _, _, _, _, _, he, k815.trans k16, ?_⟩⟩
        have k816 := k815.trans k16
        refine ⟨(lof_any ⟨toD b.d, qb, db⟩ w16 (hrb.k0 k816) (Nat.le_trans ly (by decide))).mono fun e w17 ⟨⟨q4, d4, he, ho4⟩, k17⟩ => ⟨_, _, _, _, _, _, _, _, _, _, he, ?_⟩⟩
        have k817 := k816.trans k17
        refine ⟨(xsame_any ⟨toD a.d, q3, d3⟩ ⟨toD b.d, q4, d4⟩ w17 ((MOr.row ho3).k0 k17) (MOr.row ho4) zx zy (Nat.le_trans lx (by decide))).mono fun e w18 ⟨he, k18⟩ => ⟨_, he, .of_k0 (k817.trans k18), ?_, kW.trans (kc8.trans (k817.trans k18))⟩⟩
        generalize dEq (toD a.d) (toD b.d) = z
        cases z <;> rfl
    · refine fun nx w2 hn => ⟨kc.trans (hn.kp _), ?_⟩
      have hx := hn.block
      have gx := Nat.le_trans kc.size hn.ge
      have ha := owns_kp ha (hn.kp (fun _ => False)) (fun _ _ h => h)
      have kc := kc.trans (hn.kp (fun _ => False))
      refine ⟨?_, ?_⟩
      · refine ⟨(hB _ kc).mono fun e w3 ⟨⟨qb, db, he, hb⟩, kk⟩ => ⟨_, _, _, _, _, _, _, _, _, _, he, ?_⟩⟩
        have hb := own_base hb kc.size
        have ha := owns_kp ha kk (fun _ _ h => h)
        have hx := K0.blk_ kk hx
        have kc := kc.trans kk
        refine fun ny w4 hn => ⟨kc.trans (hn.kp _), ?_⟩
        have hy := hn.block
        have gy := Nat.le_trans kc.size hn.ge
        have hne : nx ≠ ny := by have h1 := block_lt hx; have h2 := hn.ge; omega
        have ha := owns_kp ha (hn.kp (fun _ => False)) (fun _ _ h => h)
        have hb := owns_kp hb (hn.kp (fun _ => False)) (fun _ _ h => h)
        have hx := K0.blk_ (hn.kp (fun _ => False)) hx
        have kc := kc.trans (hn.kp (fun _ => False))
        refine ⟨WrL_block hx (Nat.le_refl 54), fun wp hp => ?_⟩
        have ha := owns_kp ha hp.kp (fun k hk e => own_not ha hx rfl (by rw [hk, e]))
        have hb := owns_kp hb hp.kp (fun k hk e => own_not hb hx rfl (by rw [hk, e]))
        have hy := hp.blk hy (fun e => hne e.symm)
        have hx := hp.full hx rfl
        have kc := put_k0 kc hp gx
        refine ⟨WrL_block hy (Nat.le_refl 54), fun wq hp => ?_⟩
        have ha := owns_kp ha hp.kp (fun k hk e => own_not ha hy rfl (by rw [hk, e]))
        have hb := owns_kp hb hp.kp (fun k hk e => own_not hb hy rfl (by rw [hk, e]))
        have hx := hp.blk hx hne
        have hy := hp.full hy rfl
        have kc := put_k0 kc hp gy
        clear hp
        refine ⟨.of_k0 kc, ?_⟩
        intro W8 hW8
        have k8 : K0 wq W8 := hW8.kk rfl
        have kc8 := kc.trans k8
        have hx := K0.blk_ k8 hx
        have hy := K0.blk_ k8 hy
        have hra := (MO.row ha).k0 k8
        have hrb := (MO.row hb).k0 k8
        have hda := own_le ha
        refine ⟨fun wx => K0 W8 wx, .refl _ _, ⟨(known_any W8 (hG' (kW.trans kc8))).mono fun e w9 ⟨he, k9⟩ => ⟨_, he, k9, _, _, _, _, _, _, _, _, _, _, gimp_intro fun _ wx k => AtL_block (K0.blk_ k hx) rfl, _, _, _, _, _, _, _, _, _, _, gimp_intro fun _ wx k => AtL_block (K0.blk_ k hx) rfl, bsp_intro (fun _ => ?_) (fun h => by cases h)⟩⟩⟩
        refine ⟨(dcheck_any ⟨toD a.d, qa, da⟩ w9 (hra.k0 k9) hda zx (hG' (kW.trans (kc8.trans k9)))).mono fun e w10 ⟨he, k10⟩ => ⟨_, he, k9.trans k10, ?_⟩⟩
        have k810 := k9.trans k10
        refine ⟨(lof_any ⟨toD a.d, qa, da⟩ w10 (hra.k0 k810) (Nat.le_trans lx (by decide))).mono fun e w11 ⟨⟨q2, d2, he, ho2⟩, k11⟩ => ⟨_, _, _, _, _, _, _, _, _, _, he, k810.trans k11, ?_⟩⟩
        have k811 := k810.trans k11
        refine ⟨(xcheck_any ⟨toD a.d, q2, d2⟩ w11 (MOr.row ho2) zx).mono fun e w12 ⟨he, k12⟩ => ⟨_, he, k811.trans k12, _, _, _, _, _, _, _, _, _, _, gimp_intro fun _ wx k => AtL_block (K0.blk_ k hx) rfl, _, _, _, _, _, _, _, _, _, _, gimp_intro fun _ wx k => AtL_block (K0.blk_ (kc8.trans k) hc1) rfl, bsp_intro (fun _ => ?_) (fun h => by simp at h)⟩⟩
        have k812 := k811.trans k12
        refine ⟨(hA w12 (kc8.trans k812)).mono fun e w13 ⟨⟨q5, d5, he, ho5⟩, k13⟩ => ⟨_, _, _, _, _, _, _, _, _, _, he, k812.trans k13, ?_⟩⟩
        have k813 := k812.trans k13
        refine ⟨(dequal_any ⟨toD a.d, qa, da⟩ ⟨toD a.d, q5, d5⟩ w13 (hra.k0 k813) (MO.row ho5) zx zx (Nat.le_trans lx (by decide))).mono fun e w14 ⟨he, k14⟩ => ⟨_, he, k813.trans k14, _, _, _, _, _, _, _, _, _, _, gimp_intro fun _ wx k => AtL_block (K0.blk_ k hx) rfl, _, _, _, _, _, _, _, _, _, _, gimp_intro fun _ wx k => AtL_block (K0.blk_ k hy) rfl, _, _, _, _, _, _, _, _, _, _, gimp_intro fun _ wx k => AtL_block (K0.blk_ k hx) rfl, _, _, _, _, _, _, _, _, _, _, gimp_intro fun _ wx k => AtL_block (K0.blk_ k hy) rfl, bsp_intro (fun _ => ?_) (fun h => by rw [dEq_self] at h; cases h)⟩⟩
        have k814 := k813.trans k14
        refine ⟨(dequal_any ⟨toD a.d, qa, da⟩ ⟨toD b.d, qb, db⟩ w14 (hra.k0 k814) (hrb.k0 k814) zx zy (Nat.le_trans lx (by decide))).mono fun e w15 ⟨he, k15⟩ => ⟨_, he, k814.trans k15, ?_⟩⟩
        have k815 := k814.trans k15
        refine ⟨(lof_any ⟨toD a.d, qa, da⟩ w15 (hra.k0 k815) (Nat.le_trans lx (by decide))).mono fun e w16 ⟨⟨q3, d3, he, ho3⟩, k16⟩ => ⟨_, _, _, _, _, _, _, _, _, _, he, k815.trans k16, ?_⟩⟩
        have k816 := k815.trans k16
        refine ⟨(lof_any ⟨toD b.d, qb, db⟩ w16 (hrb.k0 k816) (Nat.le_trans ly (by decide))).mono fun e w17 ⟨⟨q4, d4, he, ho4⟩, k17⟩ => ⟨_, _, _, _, _, _, _, _, _, _, he, ?_⟩⟩
        have k817 := k816.trans k17
        refine ⟨(xsame_any ⟨toD a.d, q3, d3⟩ ⟨toD b.d, q4, d4⟩ w17 ((MOr.row ho3).k0 k17) (MOr.row ho4) zx zy (Nat.le_trans lx (by decide))).mono fun e w18 ⟨he, k18⟩ => ⟨_, he, .of_k0 (k817.trans k18), ?_, kW.trans (kc8.trans (k817.trans k18))⟩⟩
        generalize dEq (toD a.d) (toD b.d) = z
        cases z <;> rfl
      · refine fun ny w3 hn => ⟨kc.trans (hn.kp _), ?_⟩
        have hy := hn.block
        have gy := Nat.le_trans kc.size hn.ge
        have hne : nx ≠ ny := by have h1 := block_lt hx; have h2 := hn.ge; omega
        have ha := owns_kp ha (hn.kp (fun _ => False)) (fun _ _ h => h)
        have hx := K0.blk_ (hn.kp (fun _ => False)) hx
        have kc := kc.trans (hn.kp (fun _ => False))
        refine ⟨(hB _ kc).mono fun e w4 ⟨⟨qb, db, he, hb⟩, kk⟩ => ⟨_, _, _, _, _, _, _, _, _, _, he, ?_⟩⟩
        have hb := own_base hb kc.size
        have ha := owns_kp ha kk (fun _ _ h => h)
        have hx := K0.blk_ kk hx
        have hy := K0.blk_ kk hy
        have kc := kc.trans kk
        refine ⟨WrL_block hx (Nat.le_refl 54), fun wp hp => ?_⟩
        have ha := owns_kp ha hp.kp (fun k hk e => own_not ha hx rfl (by rw [hk, e]))
        have hb := owns_kp hb hp.kp (fun k hk e => own_not hb hx rfl (by rw [hk, e]))
        have hy := hp.blk hy (fun e => hne e.symm)
        have hx := hp.full hx rfl
        have kc := put_k0 kc hp gx
        refine ⟨WrL_block hy (Nat.le_refl 54), fun wq hp => ?_⟩
        have ha := owns_kp ha hp.kp (fun k hk e => own_not ha hy rfl (by rw [hk, e]))
        have hb := owns_kp hb hp.kp (fun k hk e => own_not hb hy rfl (by rw [hk, e]))
        have hx := hp.blk hx hne
        have hy := hp.full hy rfl
        have kc := put_k0 kc hp gy
        clear hp
        refine ⟨.of_k0 kc, ?_⟩
        intro W8 hW8
        have k8 : K0 wq W8 := hW8.kk rfl
        have kc8 := kc.trans k8
        have hx := K0.blk_ k8 hx
        have hy := K0.blk_ k8 hy
        have hra := (MO.row ha).k0 k8
        have hrb := (MO.row hb).k0 k8
        have hda := own_le ha
        refine ⟨fun wx => K0 W8 wx, .refl _ _, ⟨(known_any W8 (hG' (kW.trans kc8))).mono fun e w9 ⟨he, k9⟩ => ⟨_, he, k9, _, _, _, _, _, _, _, _, _, _, gimp_intro fun _ wx k => AtL_block (K0.blk_ k hx) rfl, _, _, _, _, _, _, _, _, _, _, gimp_intro fun _ wx k => AtL_block (K0.blk_ k hx) rfl, bsp_intro (fun _ => ?_) (fun h => by cases h)⟩⟩⟩
        refine ⟨(dcheck_any ⟨toD a.d, qa, da⟩ w9 (hra.k0 k9) hda zx (hG' (kW.trans (kc8.trans k9)))).mono fun e w10 ⟨he, k10⟩ => ⟨_, he, k9.trans k10, ?_⟩⟩
        have k810 := k9.trans k10
        refine ⟨(lof_any ⟨toD a.d, qa, da⟩ w10 (hra.k0 k810) (Nat.le_trans lx (by decide))).mono fun e w11 ⟨⟨q2, d2, he, ho2⟩, k11⟩ => ⟨_, _, _, _, _, _, _, _, _, _, he, k810.trans k11, ?_⟩⟩
        have k811 := k810.trans k11
        refine ⟨(xcheck_any ⟨toD a.d, q2, d2⟩ w11 (MOr.row ho2) zx).mono fun e w12 ⟨he, k12⟩ => ⟨_, he, k811.trans k12, _, _, _, _, _, _, _, _, _, _, gimp_intro fun _ wx k => AtL_block (K0.blk_ k hx) rfl, _, _, _, _, _, _, _, _, _, _, gimp_intro fun _ wx k => AtL_block (K0.blk_ (kc8.trans k) hc1) rfl, bsp_intro (fun _ => ?_) (fun h => by simp at h)⟩⟩
        have k812 := k811.trans k12
        refine ⟨(hA w12 (kc8.trans k812)).mono fun e w13 ⟨⟨q5, d5, he, ho5⟩, k13⟩ => ⟨_, _, _, _, _, _, _, _, _, _, he, k812.trans k13, ?_⟩⟩
        have k813 := k812.trans k13
        refine ⟨(dequal_any ⟨toD a.d, qa, da⟩ ⟨toD a.d, q5, d5⟩ w13 (hra.k0 k813) (MO.row ho5) zx zx (Nat.le_trans lx (by decide))).mono fun e w14 ⟨he, k14⟩ => ⟨_, he, k813.trans k14, _, _, _, _, _, _, _, _, _, _, gimp_intro fun _ wx k => AtL_block (K0.blk_ k hx) rfl, _, _, _, _, _, _, _, _, _, _, gimp_intro fun _ wx k => AtL_block (K0.blk_ k hy) rfl, _, _, _, _, _, _, _, _, _, _, gimp_intro fun _ wx k => AtL_block (K0.blk_ k hx) rfl, _, _, _, _, _, _, _, _, _, _, gimp_intro fun _ wx k => AtL_block (K0.blk_ k hy) rfl, bsp_intro (fun _ => ?_) (fun h => by rw [dEq_self] at h; cases h)⟩⟩
        have k814 := k813.trans k14
        refine ⟨(dequal_any ⟨toD a.d, qa, da⟩ ⟨toD b.d, qb, db⟩ w14 (hra.k0 k814) (hrb.k0 k814) zx zy (Nat.le_trans lx (by decide))).mono fun e w15 ⟨he, k15⟩ => ⟨_, he, k814.trans k15, ?_⟩⟩
        have k815 := k814.trans k15
        refine ⟨(lof_any ⟨toD a.d, qa, da⟩ w15 (hra.k0 k815) (Nat.le_trans lx (by decide))).mono fun e w16 ⟨⟨q3, d3, he, ho3⟩, k16⟩ => ⟨_, _, _, _, _, _, _, _, _, _, he, k815.trans k16, ?_⟩⟩
        have k816 := k815.trans k16
        refine ⟨(lof_any ⟨toD b.d, qb, db⟩ w16 (hrb.k0 k816) (Nat.le_trans ly (by decide))).mono fun e w17 ⟨⟨q4, d4, he, ho4⟩, k17⟩ => ⟨_, _, _, _, _, _, _, _, _, _, he, ?_⟩⟩
        have k817 := k816.trans k17
        refine ⟨(xsame_any ⟨toD a.d, q3, d3⟩ ⟨toD b.d, q4, d4⟩ w17 ((MOr.row ho3).k0 k17) (MOr.row ho4) zx zy (Nat.le_trans lx (by decide))).mono fun e w18 ⟨he, k18⟩ => ⟨_, he, .of_k0 (k817.trans k18), ?_, kW.trans (kc8.trans (k817.trans k18))⟩⟩
        generalize dEq (toD a.d) (toD b.d) = z
        cases z <;> rfl
    · refine fun ny w2 hn => ⟨kc.trans (hn.kp _), ?_⟩
      have hy := hn.block
      have gy := Nat.le_trans kc.size hn.ge
      have ha := owns_kp ha (hn.kp (fun _ => False)) (fun _ _ h => h)
      have kc := kc.trans (hn.kp (fun _ => False))
      refine ⟨?_, ?_⟩
      · refine ⟨(hB _ kc).mono fun e w3 ⟨⟨qb, db, he, hb⟩, kk⟩ => ⟨_, _, _, _, _, _, _, _, _, _, he, ?_⟩⟩
        have hb := own_base hb kc.size
        have ha := owns_kp ha kk (fun _ _ h => h)
        have hy := K0.blk_ kk hy
        have kc := kc.trans kk
        refine fun nx w4 hn => ⟨kc.trans (hn.kp _), ?_⟩
        have hx := hn.block
        have gx := Nat.le_trans kc.size hn.ge
        have hne : nx ≠ ny := by have h1 := block_lt hy; have h2 := hn.ge; omega
        have ha := owns_kp ha (hn.kp (fun _ => False)) (fun _ _ h => h)
        have hb := owns_kp hb (hn.kp (fun _ => False)) (fun _ _ h => h)
        have hy := K0.blk_ (hn.kp (fun _ => False)) hy
        have kc := kc.trans (hn.kp (fun _ => False))
        refine ⟨WrL_block hx (Nat.le_refl 54), fun wp hp => ?_⟩
        have ha := owns_kp ha hp.kp (fun k hk e => own_not ha hx rfl (by rw [hk, e]))
        have hb := owns_kp hb hp.kp (fun k hk e => own_not hb hx rfl (by rw [hk, e]))
        have hy := hp.blk hy (fun e => hne e.symm)
        have hx := hp.full hx rfl
        have kc := put_k0 kc hp gx
        refine ⟨WrL_block hy (Nat.le_refl 54), fun wq hp => ?_⟩
        have ha := owns_kp ha hp.kp (fun k hk e => own_not ha hy rfl (by rw [hk, e]))
        have hb := owns_kp hb hp.kp (fun k hk e => own_not hb hy rfl (by rw [hk, e]))
        have hx := hp.blk hx hne
        have hy := hp.full hy rfl
        have kc := put_k0 kc hp gy
        clear hp
        refine ⟨.of_k0 kc, ?_⟩
        intro W8 hW8
        have k8 : K0 wq W8 := hW8.kk rfl
        have kc8 := kc.trans k8
        have hx := K0.blk_ k8 hx
        have hy := K0.blk_ k8 hy
        have hra := (MO.row ha).k0 k8
        have hrb := (MO.row hb).k0 k8
        have hda := own_le ha
        refine ⟨fun wx => K0 W8 wx, .refl _ _, ⟨(known_any W8 (hG' (kW.trans kc8))).mono fun e w9 ⟨he, k9⟩ => ⟨_, he, k9, _, _, _, _, _, _, _, _, _, _, gimp_intro fun _ wx k => AtL_block (K0.blk_ k hx) rfl, _, _, _, _, _, _, _, _, _, _, gimp_intro fun _ wx k => AtL_block (K0.blk_ k hx) rfl, bsp_intro (fun _ => ?_) (fun h => by cases h)⟩⟩⟩
        refine ⟨(dcheck_any ⟨toD a.d, qa, da⟩ w9 (hra.k0 k9) hda zx (hG' (kW.trans (kc8.trans k9)))).mono fun e w10 ⟨he, k10⟩ => ⟨_, he, k9.trans k10, ?_⟩⟩
        have k810 := k9.trans k10
        refine ⟨(lof_any ⟨toD a.d, qa, da⟩ w10 (hra.k0 k810) (Nat.le_trans lx (by decide))).mono fun e w11 ⟨⟨q2, d2, he, ho2⟩, k11⟩ => ⟨_, _, _, _, _, _, _, _, _, _, he, k810.trans k11, ?_⟩⟩
        have k811 := k810.trans k11
        refine ⟨(xcheck_any ⟨toD a.d, q2, d2⟩ w11 (MOr.row ho2) zx).mono fun e w12 ⟨he, k12⟩ => ⟨_, he, k811.trans k12, _, _, _, _, _, _, _, _, _, _, gimp_intro fun _ wx k => AtL_block (K0.blk_ k hx) rfl, _, _, _, _, _, _, _, _, _, _, gimp_intro fun _ wx k => AtL_block (K0.blk_ (kc8.trans k) hc1) rfl, bsp_intro (fun _ => ?_) (fun h => by simp at h)⟩⟩
        have k812 := k811.trans k12
        refine ⟨(hA w12 (kc8.trans k812)).mono fun e w13 ⟨⟨q5, d5, he, ho5⟩, k13⟩ => ⟨_, _, _, _, _, _, _, _, _, _, he, k812.trans k13, ?_⟩⟩
        have k813 := k812.trans k13
        refine ⟨(dequal_any ⟨toD a.d, qa, da⟩ ⟨toD a.d, q5, d5⟩ w13 (hra.k0 k813) (MO.row ho5) zx zx (Nat.le_trans lx (by decide))).mono fun e w14 ⟨he, k14⟩ => ⟨_, he, k813.trans k14, _, _, _, _, _, _, _, _, _, _, gimp_intro fun _ wx k => AtL_block (K0.blk_ k hx) rfl, _, _, _, _, _, _, _, _, _, _, gimp_intro fun _ wx k => AtL_block (K0.blk_ k hy) rfl, _, _, _, _, _, _, _, _, _, _, gimp_intro fun _ wx k => AtL_block (K0.blk_ k hx) rfl, _, _, _, _, _, _, _, _, _, _, gimp_intro fun _ wx k => AtL_block (K0.blk_ k hy) rfl, bsp_intro (fun _ => ?_) (fun h => by rw [dEq_self] at h; cases h)⟩⟩
        have k814 := k813.trans k14
        refine ⟨(dequal_any ⟨toD a.d, qa, da⟩ ⟨toD b.d, qb, db⟩ w14 (hra.k0 k814) (hrb.k0 k814) zx zy (Nat.le_trans lx (by decide))).mono fun e w15 ⟨he, k15⟩ => ⟨_, he, k814.trans k15, ?_⟩⟩
        have k815 := k814.trans k15
        refine ⟨(lof_any ⟨toD a.d, qa, da⟩ w15 (hra.k0 k815) (Nat.le_trans lx (by decide))).mono fun e w16 ⟨⟨q3, d3, he, ho3⟩, k16⟩ => ⟨_, _, _, _, _, _, _, _, _, _, he, k815.trans k16, ?_⟩⟩
        have k816 := k815.trans k16
        refine ⟨(lof_any ⟨toD b.d, qb, db⟩ w16 (hrb.k0 k816) (Nat.le_trans ly (by decide))).mono fun e w17 ⟨⟨q4, d4, he, ho4⟩, k17⟩ => ⟨_, _, _, _, _, _, _, _, _, _, he, ?_⟩⟩
        have k817 := k816.trans k17
        refine ⟨(xsame_any ⟨toD a.d, q3, d3⟩ ⟨toD b.d, q4, d4⟩ w17 ((MOr.row ho3).k0 k17) (MOr.row ho4) zx zy (Nat.le_trans lx (by decide))).mono fun e w18 ⟨he, k18⟩ => ⟨_, he, .of_k0 (k817.trans k18), ?_, kW.trans (kc8.trans (k817.trans k18))⟩⟩
        generalize dEq (toD a.d) (toD b.d) = z
        cases z <;> rfl
      · refine fun nx w3 hn => ⟨kc.trans (hn.kp _), ?_⟩
        have hx := hn.block
        have gx := Nat.le_trans kc.size hn.ge
        have hne : nx ≠ ny := by have h1 := block_lt hy; have h2 := hn.ge; omega
        have ha := owns_kp ha (hn.kp (fun _ => False)) (fun _ _ h => h)
        have hy := K0.blk_ (hn.kp (fun _ => False)) hy
        have kc := kc.trans (hn.kp (fun _ => False))
        refine ⟨(hB _ kc).mono fun e w4 ⟨⟨qb, db, he, hb⟩, kk⟩ => ⟨_, _, _, _, _, _, _, _, _, _, he, ?_⟩⟩
        have hb := own_base hb kc.size
        have ha := owns_kp ha kk (fun _ _ h => h)
        have hx := K0.blk_ kk hx
        have hy := K0.blk_ kk hy
        have kc := kc.trans kk
        refine ⟨WrL_block hx (Nat.le_refl 54), fun wp hp => ?_⟩
        have ha := owns_kp ha hp.kp (fun k hk e => own_not ha hx rfl (by rw [hk, e]))
        have hb := owns_kp hb hp.kp (fun k hk e => own_not hb hx rfl (by rw [hk, e]))
        have hy := hp.blk hy (fun e => hne e.symm)
        have hx := hp.full hx rfl
        have kc := put_k0 kc hp gx
        refine ⟨WrL_block hy (Nat.le_refl 54), fun wq hp => ?_⟩
        have ha := owns_kp ha hp.kp (fun k hk e => own_not ha hy rfl (by rw [hk, e]))
        have hb := owns_kp hb hp.kp (fun k hk e => own_not hb hy rfl (by rw [hk, e]))
        have hx := hp.blk hx hne
        have hy := hp.full hy rfl
        have kc := put_k0 kc hp gy
        clear hp
        refine ⟨.of_k0 kc, ?_⟩
        intro W8 hW8
        have k8 : K0 wq W8 := hW8.kk rfl
        have kc8 := kc.trans k8
        have hx := K0.blk_ k8 hx
        have hy := K0.blk_ k8 hy
        have hra := (MO.row ha).k0 k8
        have hrb := (MO.row hb).k0 k8
        have hda := own_le ha
        refine ⟨fun wx => K0 W8 wx, .refl _ _, ⟨(known_any W8 (hG' (kW.trans kc8))).mono fun e w9 ⟨he, k9⟩ => ⟨_, he, k9, _, _, _, _, _, _, _, _, _, _, gimp_intro fun _ wx k => AtL_block (K0.blk_ k hx) rfl, _, _, _, _, _, _, _, _, _, _, gimp_intro fun _ wx k => AtL_block (K0.blk_ k hx) rfl, bsp_intro (fun _ => ?_) (fun h => by cases h)⟩⟩⟩
        refine ⟨(dcheck_any ⟨toD a.d, qa, da⟩ w9 (hra.k0 k9) hda zx (hG' (kW.trans (kc8.trans k9)))).mono fun e w10 ⟨he, k10⟩ => ⟨_, he, k9.trans k10, ?_⟩⟩
        have k810 := k9.trans k10
        refine ⟨(lof_any ⟨toD a.d, qa, da⟩ w10 (hra.k0 k810) (Nat.le_trans lx (by decide))).mono fun e w11 ⟨⟨q2, d2, he, ho2⟩, k11⟩ => ⟨_, _, _, _, _, _, _, _, _, _, he, k810.trans k11, ?_⟩⟩
        have k811 := k810.trans k11
        refine ⟨(xcheck_any ⟨toD a.d, q2, d2⟩ w11 (MOr.row ho2) zx).mono fun e w12 ⟨he, k12⟩ => ⟨_, he, k811.trans k12, _, _, _, _, _, _, _, _, _, _, gimp_intro fun _ wx k => AtL_block (K0.blk_ k hx) rfl, _, _, _, _, _, _, _, _, _, _, gimp_intro fun _ wx k => AtL_block (K0.blk_ (kc8.trans k) hc1) rfl, bsp_intro (fun _ => ?_) (fun h => by simp at h)⟩⟩
        have k812 := k811.trans k12
        refine ⟨(hA w12 (kc8.trans k812)).mono fun e w13 ⟨⟨q5, d5, he, ho5⟩, k13⟩ => ⟨_, _, _, _, _, _, _, _, _, _, he, k812.trans k13, ?_⟩⟩
        have k813 := k812.trans k13
        refine ⟨(dequal_any ⟨toD a.d, qa, da⟩ ⟨toD a.d, q5, d5⟩ w13 (hra.k0 k813) (MO.row ho5) zx zx (Nat.le_trans lx (by decide))).mono fun e w14 ⟨he, k14⟩ => ⟨_, he, k813.trans k14, _, _, _, _, _, _, _, _, _, _, gimp_intro fun _ wx k => AtL_block (K0.blk_ k hx) rfl, _, _, _, _, _, _, _, _, _, _, gimp_intro fun _ wx k => AtL_block (K0.blk_ k hy) rfl, _, _, _, _, _, _, _, _, _, _, gimp_intro fun _ wx k => AtL_block (K0.blk_ k hx) rfl, _, _, _, _, _, _, _, _, _, _, gimp_intro fun _ wx k => AtL_block (K0.blk_ k hy) rfl, bsp_intro (fun _ => ?_) (fun h => by rw [dEq_self] at h; cases h)⟩⟩
        have k814 := k813.trans k14
        refine ⟨(dequal_any ⟨toD a.d, qa, da⟩ ⟨toD b.d, qb, db⟩ w14 (hra.k0 k814) (hrb.k0 k814) zx zy (Nat.le_trans lx (by decide))).mono fun e w15 ⟨he, k15⟩ => ⟨_, he, k814.trans k15, ?_⟩⟩
        have k815 := k814.trans k15
        refine ⟨(lof_any ⟨toD a.d, qa, da⟩ w15 (hra.k0 k815) (Nat.le_trans lx (by decide))).mono fun e w16 ⟨⟨q3, d3, he, ho3⟩, k16⟩ => ⟨_, _, _, _, _, _, _, _, _, _, he, k815.trans k16, ?_⟩⟩
        have k816 := k815.trans k16
        refine ⟨(lof_any ⟨toD b.d, qb, db⟩ w16 (hrb.k0 k816) (Nat.le_trans ly (by decide))).mono fun e w17 ⟨⟨q4, d4, he, ho4⟩, k17⟩ => ⟨_, _, _, _, _, _, _, _, _, _, he, ?_⟩⟩
        have k817 := k816.trans k17
        refine ⟨(xsame_any ⟨toD a.d, q3, d3⟩ ⟨toD b.d, q4, d4⟩ w17 ((MOr.row ho3).k0 k17) (MOr.row ho4) zx zy (Nat.le_trans lx (by decide))).mono fun e w18 ⟨he, k18⟩ => ⟨_, he, .of_k0 (k817.trans k18), ?_, kW.trans (kc8.trans (k817.trans k18))⟩⟩
        generalize dEq (toD a.d) (toD b.d) = z
        cases z <;> rfl
  · refine fun nx w1 hn => ⟨kc.trans (hn.kp _), ?_⟩
    have hx := hn.block
    have gx := Nat.le_trans kc.size hn.ge
    have kc := kc.trans (hn.kp (fun _ => False))
    refine ⟨?_, ?_⟩
    · refine ⟨(hA _ kc).mono fun e w2 ⟨⟨qa, da, he, ha⟩, kk⟩ => ⟨_, _, _, _, _, _, _, _, _, _, he, kc.trans kk, ?_⟩⟩
      have ha := own_base ha kc.size
      have hx := K0.blk_ kk hx
      have kc := kc.trans kk
      refine ⟨?_, ?_⟩
      · refine ⟨(hB _ kc).mono fun e w3 ⟨⟨qb, db, he, hb⟩, kk⟩ => ⟨_, _, _, _, _, _, _, _, _, _, he, ?_⟩⟩
        have hb := own_base hb kc.size
        have ha := owns_kp ha kk (fun _ _ h => h)
        have hx := K0.blk_ kk hx
        have kc := kc.trans kk
        refine fun ny w4 hn => ⟨kc.trans (hn.kp _), ?_⟩
        have hy := hn.block
        have gy := Nat.le_trans kc.size hn.ge
        have hne : nx ≠ ny := by have h1 := block_lt hx; have h2 := hn.ge; omega
        have ha := owns_kp ha (hn.kp (fun _ => False)) (fun _ _ h => h)
        have hb := owns_kp hb (hn.kp (fun _ => False)) (fun _ _ h => h)
        have hx := K0.blk_ (hn.kp (fun _ => False)) hx
        have kc := kc.trans (hn.kp (fun _ => False))
        refine ⟨WrL_block hx (Nat.le_refl 54), fun wp hp => ?_⟩
        have ha := owns_kp ha hp.kp (fun k hk e => own_not ha hx rfl (by rw [hk, e]))
        have hb := owns_kp hb hp.kp (fun k hk e => own_not hb hx rfl (by rw [hk, e]))
        have hy := hp.blk hy (fun e => hne e.symm)
        have hx := hp.full hx rfl
        have kc := put_k0 kc hp gx
        refine ⟨WrL_block hy (Nat.le_refl 54), fun wq hp => ?_⟩
        have ha := owns_kp ha hp.kp (fun k hk e => own_not ha hy rfl (by rw [hk, e]))
        have hb := owns_kp hb hp.kp (fun k hk e => own_not hb hy rfl (by rw [hk, e]))
        have hx := hp.blk hx hne
        have hy := hp.full hy rfl
        have kc := put_k0 kc hp gy
        clear hp
        refine ⟨.of_k0 kc, ?_⟩
        intro W8 hW8
        have k8 : K0 wq W8 := hW8.kk rfl
        have kc8 := kc.trans k8
        have hx := K0.blk_ k8 hx
        have hy := K0.blk_ k8 hy
        have hra := (MO.row ha).k0 k8
        have hrb := (MO.row hb).k0 k8
        have hda := own_le ha
        refine ⟨fun wx => K0 W8 wx, .refl _ _, ⟨(known_any W8 (hG' (kW.trans kc8))).mono fun e w9 ⟨he, k9⟩ => ⟨_, he, k9, _, _, _, _, _, _, _, _, _, _, gimp_intro fun _ wx k => AtL_block (K0.blk_ k hx) rfl, _, _, _, _, _, _, _, _, _, _, gimp_intro fun _ wx k => AtL_block (K0.blk_ k hx) rfl, bsp_intro (fun _ => ?_) (fun h => by cases h)⟩⟩⟩
        refine ⟨(dcheck_any ⟨toD a.d, qa, da⟩ w9 (hra.k0 k9) hda zx (hG' (kW.trans (kc8.trans k9)))).mono fun e w10 ⟨he, k10⟩ => ⟨_, he, k9.trans k10, ?_⟩⟩
        have k810 := k9.trans k10
        refine ⟨(lof_any ⟨toD a.d, qa, da⟩ w10 (hra.k0 k810) (Nat.le_trans lx (by decide))).mono fun e w11 ⟨⟨q2, d2, he, ho2⟩, k11⟩ => ⟨_, _, _, _, _, _, _, _, _, _, he, k810.trans k11, ?_⟩⟩
        have k811 := k810.trans k11
        refine ⟨(xcheck_any ⟨toD a.d, q2, d2⟩ w11 (MOr.row ho2) zx).mono fun e w12 ⟨he, k12⟩ => ⟨_, he, k811.trans k12, _, _, _, _, _, _, _, _, _, _, gimp_intro fun _ wx k => AtL_block (K0.blk_ k hx) rfl, _, _, _, _, _, _, _, _, _, _, gimp_intro fun _ wx k => AtL_block (K0.blk_ (kc8.trans k) hc1) rfl, bsp_intro (fun _ => ?_) (fun h => by simp at h)⟩⟩
        have k812 := k811.trans k12
        refine ⟨(hA w12 (kc8.trans k812)).mono fun e w13 ⟨⟨q5, d5, he, ho5⟩, k13⟩ => ⟨_, _, _, _, _, _, _, _, _, _, he, k812.trans k13, ?_⟩⟩
        have k813 := k812.trans k13
        refine ⟨(dequal_any ⟨toD a.d, qa, da⟩ ⟨toD a.d, q5, d5⟩ w13 (hra.k0 k813) (MO.row ho5) zx zx (Nat.le_trans lx (by decide))).mono fun e w14 ⟨he, k14⟩ => ⟨_, he, k813.trans k14, _, _, _, _, _, _, _, _, _, _, gimp_intro fun _ wx k => AtL_block (K0.blk_ k hx) rfl, _, _, _, _, _, _, _, _, _, _, gimp_intro fun _ wx k => AtL_block (K0.blk_ k hy) rfl, _, _, _, _, _, _, _, _, _, _, gimp_intro fun _ wx k => AtL_block (K0.blk_ k hx) rfl, _, _, _, _, _, _, _, _, _, _, gimp_intro fun _ wx k => AtL_block (K0.blk_ k hy) rfl, bsp_intro (fun _ => ?_) (fun h => by rw [dEq_self] at h; cases h)⟩⟩
        have k814 := k813.trans k14
        refine ⟨(dequal_any ⟨toD a.d, qa, da⟩ ⟨toD b.d, qb, db⟩ w14 (hra.k0 k814) (hrb.k0 k814) zx zy (Nat.le_trans lx (by decide))).mono fun e w15 ⟨he, k15⟩ => ⟨_, he, k814.trans k15, ?_⟩⟩
        have k815 := k814.trans k15
        refine ⟨(lof_any ⟨toD a.d, qa, da⟩ w15 (hra.k0 k815) (Nat.le_trans lx (by decide))).mono fun e w16 ⟨⟨q3, d3, he, ho3⟩, k16⟩ => ⟨_, _, _, _, _, _, _, _, _, _, he, k815.trans k16, ?_⟩⟩
        have k816 := k815.trans k16
        refine ⟨(lof_any ⟨toD b.d, qb, db⟩ w16 (hrb.k0 k816) (Nat.le_trans ly (by decide))).mono fun e w17 ⟨⟨q4, d4, he, ho4⟩, k17⟩ => ⟨_, _, _, _, _, _, _, _, _, _, he, ?_⟩⟩
        have k817 := k816.trans k17
        refine ⟨(xsame_any ⟨toD a.d, q3, d3⟩ ⟨toD b.d, q4, d4⟩ w17 ((MOr.row ho3).k0 k17) (MOr.row ho4) zx zy (Nat.le_trans lx (by decide))).mono fun e w18 ⟨he, k18⟩ => ⟨_, he, .of_k0 (k817.trans k18), ?_, kW.trans (kc8.trans (k817.trans k18))⟩⟩
        generalize dEq (toD a.d) (toD b.d) = z
        cases z <;> rfl
      · refine fun ny w3 hn => ⟨kc.trans (hn.kp _), ?_⟩
        have hy := hn.block
        have gy := Nat.le_trans kc.size hn.ge
        have hne : nx ≠ ny := by have h1 := block_lt hx; have h2 := hn.ge; omega
        have ha := owns_kp ha (hn.kp (fun _ => False)) (fun _ _ h => h)
        have hx := K0.blk_ (hn.kp (fun _ => False)) hx
        have kc := kc.trans (hn.kp (fun _ => False))
        refine ⟨(hB _ kc).mono fun e w4 ⟨⟨qb, db, he, hb⟩, kk⟩ => ⟨_, _, _, _, _, _, _, _, _, _, he, ?_⟩⟩
        have hb := own_base hb kc.size
        have ha := owns_kp ha kk (fun _ _ h => h)
        have hx := K0.blk_ kk hx
        have hy := K0.blk_ kk hy
        have kc := kc.trans kk
        refine ⟨WrL_block hx (Nat.le_refl 54), fun wp hp => ?_⟩
        have ha := owns_kp ha hp.kp (fun k hk e => own_not ha hx rfl (by rw [hk, e]))
        have hb := owns_kp hb hp.kp (fun k hk e => own_not hb hx rfl (by rw [hk, e]))
        have hy := hp.blk hy (fun e => hne e.symm)
        have hx := hp.full hx rfl
        have kc := put_k0 kc hp gx
        refine ⟨WrL_block hy (Nat.le_refl 54), fun wq hp => ?_⟩
        have ha := owns_kp ha hp.kp (fun k hk e => own_not ha hy rfl (by rw [hk, e]))
        have hb := owns_kp hb hp.kp (fun k hk e => own_not hb hy rfl (by rw [hk, e]))
        have hx := hp.blk hx hne
        have hy := hp.full hy rfl
        have kc := put_k0 kc hp gy
        clear hp
        refine ⟨.of_k0 kc, ?_⟩
        intro W8 hW8
        have k8 : K0 wq W8 := hW8.kk rfl
        have kc8 := kc.trans k8
        have hx := K0.blk_ k8 hx
        have hy := K0.blk_ k8 hy
        have hra := (MO.row ha).k0 k8
        have hrb := (MO.row hb).k0 k8
        have hda := own_le ha
        refine ⟨fun wx => K0 W8 wx, .refl _ _, ⟨(known_any W8 (hG' (kW.trans kc8))).mono fun e w9 ⟨he, k9⟩ => ⟨_, he, k9, _, _, _, _, _, _, _, _, _, _, gimp_intro fun _ wx k => AtL_block (K0.blk_ k hx) rfl, _, _, _, _, _, _, _, _, _, _, gimp_intro fun _ wx k => AtL_block (K0.blk_ k hx) rfl, bsp_intro (fun _ => ?_) (fun h => by cases h)⟩⟩⟩
        refine ⟨(dcheck_any ⟨toD a.d, qa, da⟩ w9 (hra.k0 k9) hda zx (hG' (kW.trans (kc8.trans k9)))).mono fun e w10 ⟨he, k10⟩ => ⟨_, he, k9.trans k10, ?_⟩⟩
        have k810 := k9.trans k10
        refine ⟨(lof_any ⟨toD a.d, qa, da⟩ w10 (hra.k0 k810) (Nat.le_trans lx (by decide))).mono fun e w11 ⟨⟨q2, d2, he, ho2⟩, k11⟩ => ⟨_, _, _, _, _, _, _, _, _, _, he, k810.trans k11, ?_⟩⟩
        have k811 := k810.trans k11
        refine ⟨(xcheck_any ⟨toD a.d, q2, d2⟩ w11 (MOr.row ho2) zx).mono fun e w12 ⟨he, k12⟩ => ⟨_, he, k811.trans k12, _, _, _, _, _, _, _, _, _, _, gimp_intro fun _ wx k => AtL_block (K0.blk_ k hx) rfl, _, _, _, _, _, _, _, _, _, _, gimp_intro fun _ wx k => AtL_block (K0.blk_ (kc8.trans k) hc1) rfl, bsp_intro (fun _ => ?_) (fun h => by simp at h)⟩⟩
        have k812 := k811.trans k12
        refine ⟨(hA w12 (kc8.trans k812)).mono fun e w13 ⟨⟨q5, d5, he, ho5⟩, k13⟩ => ⟨_, _, _, _, _, _, _, _, _, _, he, k812.trans k13, ?_⟩⟩
        have k813 := k812.trans k13
        refine ⟨(dequal_any ⟨toD a.d, qa, da⟩ ⟨toD a.d, q5, d5⟩ w13 (hra.k0 k813) (MO.row ho5) zx zx (Nat.le_trans lx (by decide))).mono fun e w14 ⟨he, k14⟩ => ⟨_, he, k813.trans k14, _, _, _, _, _, _, _, _, _, _, gimp_intro fun _ wx k => AtL_block (K0.blk_ k hx) rfl, _, _, _, _, _, _, _, _, _, _, gimp_intro fun _ wx k => AtL_block (K0.blk_ k hy) rfl, _, _, _, _, _, _, _, _, _, _, gimp_intro fun _ wx k => AtL_block (K0.blk_ k hx) rfl, _, _, _, _, _, _, _, _, _, _, gimp_intro fun _ wx k => AtL_block (K0.blk_ k hy) rfl, bsp_intro (fun _ => ?_) (fun h => by rw [dEq_self] at h; cases h)⟩⟩
        have k814 := k813.trans k14
        refine ⟨(dequal_any ⟨toD a.d, qa, da⟩ ⟨toD b.d, qb, db⟩ w14 (hra.k0 k814) (hrb.k0 k814) zx zy (Nat.le_trans lx (by decide))).mono fun e w15 ⟨he, k15⟩ => ⟨_, he, k814.trans k15, ?_⟩⟩
        have k815 := k814.trans k15
        refine ⟨(lof_any ⟨toD a.d, qa, da⟩ w15 (hra.k0 k815) (Nat.le_trans lx (by decide))).mono fun e w16 ⟨⟨q3, d3, he, ho3⟩, k16⟩ => ⟨_, _, _, _, _, _, _, _, _, _, he, k815.trans k16, ?_⟩⟩
        have k816 := k815.trans k16
        refine ⟨(lof_any ⟨toD b.d, qb, db⟩ w16 (hrb.k0 k816) (Nat.le_trans ly (by decide))).mono fun e w17 ⟨⟨q4, d4, he, ho4⟩, k17⟩ => ⟨_, _, _, _, _, _, _, _, _, _, he, ?_⟩⟩
        have k817 := k816.trans k17
        refine ⟨(xsame_any ⟨toD a.d, q3, d3⟩ ⟨toD b.d, q4, d4⟩ w17 ((MOr.row ho3).k0 k17) (MOr.row ho4) zx zy (Nat.le_trans lx (by decide))).mono fun e w18 ⟨he, k18⟩ => ⟨_, he, .of_k0 (k817.trans k18), ?_, kW.trans (kc8.trans (k817.trans k18))⟩⟩
        generalize dEq (toD a.d) (toD b.d) = z
        cases z <;> rfl
    · refine fun ny w2 hn => ⟨kc.trans (hn.kp _), ?_⟩
      have hy := hn.block
      have gy := Nat.le_trans kc.size hn.ge
      have hne : nx ≠ ny := by have h1 := block_lt hx; have h2 := hn.ge; omega
      have hx := K0.blk_ (hn.kp (fun _ => False)) hx
      have kc := kc.trans (hn.kp (fun _ => False))
      refine ⟨(hA _ kc).mono fun e w3 ⟨⟨qa, da, he, ha⟩, kk⟩ => ⟨_, _, _, _, _, _, _, _, _, _, he, kc.trans kk, ?_⟩⟩
      have ha := own_base ha kc.size
      have hx := K0.blk_ kk hx
      have hy := K0.blk_ kk hy
      have kc := kc.trans kk
      refine ⟨(hB _ kc).mono fun e w4 ⟨⟨qb, db, he, hb⟩, kk⟩ => ⟨_, _, _, _, _, _, _, _, _, _, he, ?_⟩⟩
      have hb := own_base hb kc.size
      have ha := owns_kp ha kk (fun _ _ h => h)
      have hx := K0.blk_ kk hx
      have hy := K0.blk_ kk hy
      have kc := kc.trans kk
      refine ⟨WrL_block hx (Nat.le_refl 54), fun wp hp => ?_⟩
      have ha := owns_kp ha hp.kp (fun k hk e => own_not ha hx rfl (by rw [hk, e]))
      have hb := owns_kp hb hp.kp (fun k hk e => own_not hb hx rfl (by rw [hk, e]))
      have hy := hp.blk hy (fun e => hne e.symm)
      have hx := hp.full hx rfl
      have kc := put_k0 kc hp gx
      refine ⟨WrL_block hy (Nat.le_refl 54), fun wq hp => ?_⟩
      have ha := owns_kp ha hp.kp (fun k hk e => own_not ha hy rfl (by rw [hk, e]))
      have hb := owns_kp hb hp.kp (fun k hk e => own_not hb hy rfl (by rw [hk, e]))
      have hx := hp.blk hx hne
      have hy := hp.full hy rfl
      have kc := put_k0 kc hp gy
      clear hp
      refine ⟨.of_k0 kc, ?_⟩
      intro W8 hW8
      have k8 : K0 wq W8 := hW8.kk rfl
      have kc8 := kc.trans k8
      have hx := K0.blk_ k8 hx
      have hy := K0.blk_ k8 hy
      have hra := (MO.row ha).k0 k8
      have hrb := (MO.row hb).k0 k8
      have hda := own_le ha
      refine ⟨fun wx => K0 W8 wx, .refl _ _, ⟨(known_any W8 (hG' (kW.trans kc8))).mono fun e w9 ⟨he, k9⟩ => ⟨_, he, k9, _, _, _, _, _, _, _, _, _, _, gimp_intro fun _ wx k => AtL_block (K0.blk_ k hx) rfl, _, _, _, _, _, _, _, _, _, _, gimp_intro fun _ wx k => AtL_block (K0.blk_ k hx) rfl, bsp_intro (fun _ => ?_) (fun h => by cases h)⟩⟩⟩
      refine ⟨(dcheck_any ⟨toD a.d, qa, da⟩ w9 (hra.k0 k9) hda zx (hG' (kW.trans (kc8.trans k9)))).mono fun e w10 ⟨he, k10⟩ => ⟨_, he, k9.trans k10, ?_⟩⟩
      have k810 := k9.trans k10
      refine ⟨(lof_any ⟨toD a.d, qa, da⟩ w10 (hra.k0 k810) (Nat.le_trans lx (by decide))).mono fun e w11 ⟨⟨q2, d2, he, ho2⟩, k11⟩ => ⟨_, _, _, _, _, _, _, _, _, _, he, k810.trans k11, ?_⟩⟩
      have k811 := k810.trans k11
      refine ⟨(xcheck_any ⟨toD a.d, q2, d2⟩ w11 (MOr.row ho2) zx).mono fun e w12 ⟨he, k12⟩ => ⟨_, he, k811.trans k12, _, _, _, _, _, _, _, _, _, _, gimp_intro fun _ wx k => AtL_block (K0.blk_ k hx) rfl, _, _, _, _, _, _, _, _, _, _, gimp_intro fun _ wx k => AtL_block (K0.blk_ (kc8.trans k) hc1) rfl, bsp_intro (fun _ => ?_) (fun h => by simp at h)⟩⟩
      have k812 := k811.trans k12
      refine ⟨(hA w12 (kc8.trans k812)).mono fun e w13 ⟨⟨q5, d5, he, ho5⟩, k13⟩ => ⟨_, _, _, _, _, _, _, _, _, _, he, k812.trans k13, ?_⟩⟩
      have k813 := k812.trans k13
      refine ⟨(dequal_any ⟨toD a.d, qa, da⟩ ⟨toD a.d, q5, d5⟩ w13 (hra.k0 k813) (MO.row ho5) zx zx (Nat.le_trans lx (by decide))).mono fun e w14 ⟨he, k14⟩ => ⟨_, he, k813.trans k14, _, _, _, _, _, _, _, _, _, _, gimp_intro fun _ wx k => AtL_block (K0.blk_ k hx) rfl, _, _, _, _, _, _, _, _, _, _, gimp_intro fun _ wx k => AtL_block (K0.blk_ k hy) rfl, _, _, _, _, _, _, _, _, _, _, gimp_intro fun _ wx k => AtL_block (K0.blk_ k hx) rfl, _, _, _, _, _, _, _, _, _, _, gimp_intro fun _ wx k => AtL_block (K0.blk_ k hy) rfl, bsp_intro (fun _ => ?_) (fun h => by rw [dEq_self] at h; cases h)⟩⟩
      have k814 := k813.trans k14
      refine ⟨(dequal_any ⟨toD a.d, qa, da⟩ ⟨toD b.d, qb, db⟩ w14 (hra.k0 k814) (hrb.k0 k814) zx zy (Nat.le_trans lx (by decide))).mono fun e w15 ⟨he, k15⟩ => ⟨_, he, k814.trans k15, ?_⟩⟩
      have k815 := k814.trans k15
      refine ⟨(lof_any ⟨toD a.d, qa, da⟩ w15 (hra.k0 k815) (Nat.le_trans lx (by decide))).mono fun e w16 ⟨⟨q3, d3, he, ho3⟩, k16⟩ => ⟨_, _, _, _, _, _, _, _, _, _, he, k815.trans k16, ?_⟩⟩
      have k816 := k815.trans k16
      refine ⟨(lof_any ⟨toD b.d, qb, db⟩ w16 (hrb.k0 k816) (Nat.le_trans ly (by decide))).mono fun e w17 ⟨⟨q4, d4, he, ho4⟩, k17⟩ => ⟨_, _, _, _, _, _, _, _, _, _, he, ?_⟩⟩
      have k817 := k816.trans k17
      refine ⟨(xsame_any ⟨toD a.d, q3, d3⟩ ⟨toD b.d, q4, d4⟩ w17 ((MOr.row ho3).k0 k17) (MOr.row ho4) zx zy (Nat.le_trans lx (by decide))).mono fun e w18 ⟨he, k18⟩ => ⟨_, he, .of_k0 (k817.trans k18), ?_, kW.trans (kc8.trans (k817.trans k18))⟩⟩
      generalize dEq (toD a.d) (toD b.d) = z
      cases z <;> rfl
  · refine fun ny w1 hn => ⟨kc.trans (hn.kp _), ?_⟩
    have hy := hn.block
    have gy := Nat.le_trans kc.size hn.ge
    have kc := kc.trans (hn.kp (fun _ => False))
    refine ⟨?_, ?_⟩
    · refine ⟨(hA _ kc).mono fun e w2 ⟨⟨qa, da, he, ha⟩, kk⟩ => ⟨_, _, _, _, _, _, _, _, _, _, he, kc.trans kk, ?_⟩⟩
      have ha := own_base ha kc.size
      have hy := K0.blk_ kk hy
      have kc := kc.trans kk
      refine ⟨?_, ?_⟩
      · refine ⟨(hB _ kc).mono fun e w3 ⟨⟨qb, db, he, hb⟩, kk⟩ => ⟨_, _, _, _, _, _, _, _, _, _, he, ?_⟩⟩
        have hb := own_base hb kc.size
        have ha := owns_kp ha kk (fun _ _ h => h)
        have hy := K0.blk_ kk hy
        have kc := kc.trans kk
        refine fun nx w4 hn => ⟨kc.trans (hn.kp _), ?_⟩
        have hx := hn.block
        have gx := Nat.le_trans kc.size hn.ge
        have hne : nx ≠ ny := by have h1 := block_lt hy; have h2 := hn.ge; omega
        have ha := owns_kp ha (hn.kp (fun _ => False)) (fun _ _ h => h)
        have hb := owns_kp hb (hn.kp (fun _ => False)) (fun _ _ h => h)
        have hy := K0.blk_ (hn.kp (fun _ => False)) hy
        have kc := kc.trans (hn.kp (fun _ => False))
        refine ⟨WrL_block hx (Nat.le_refl 54), fun wp hp => ?_⟩
        have ha := owns_kp ha hp.kp (fun k hk e => own_not ha hx rfl (by rw [hk, e]))
        have hb := owns_kp hb hp.kp (fun k hk e => own_not hb hx rfl (by rw [hk, e]))
        have hy := hp.blk hy (fun e => hne e.symm)
        have hx := hp.full hx rfl
        have kc := put_k0 kc hp gx
        refine ⟨WrL_block hy (Nat.le_refl 54), fun wq hp => ?_⟩
        have ha := owns_kp ha hp.kp (fun k hk e => own_not ha hy rfl (by rw [hk, e]))
        have hb := owns_kp hb hp.kp (fun k hk e => own_not hb hy rfl (by rw [hk, e]))
        have hx := hp.blk hx hne
        have hy := hp.full hy rfl
        have kc := put_k0 kc hp gy
        clear hp
        refine ⟨.of_k0 kc, ?_⟩
        intro W8 hW8
        have k8 : K0 wq W8 := hW8.kk rfl
        have kc8 := kc.trans k8
        have hx := K0.blk_ k8 hx
        have hy := K0.blk_ k8 hy
        have hra := (MO.row ha).k0 k8
        have hrb := (MO.row hb).k0 k8
        have hda := own_le ha
        refine ⟨fun wx => K0 W8 wx, .refl _ _, ⟨(known_any W8 (hG' (kW.trans kc8))).mono fun e w9 ⟨he, k9⟩ => ⟨_, he, k9, _, _, _, _, _, _, _, _, _, _, gimp_intro fun _ wx k => AtL_block (K0.blk_ k hx) rfl, _, _, _, _, _, _, _, _, _, _, gimp_intro fun _ wx k => AtL_block (K0.blk_ k hx) rfl, bsp_intro (fun _ => ?_) (fun h => by cases h)⟩⟩⟩
        refine ⟨(dcheck_any ⟨toD a.d, qa, da⟩ w9 (hra.k0 k9) hda zx (hG' (kW.trans (kc8.trans k9)))).mono fun e w10 ⟨he, k10⟩ => ⟨_, he, k9.trans k10, ?_⟩⟩
        have k810 := k9.trans k10
        refine ⟨(lof_any ⟨toD a.d, qa, da⟩ w10 (hra.k0 k810) (Nat.le_trans lx (by decide))).mono fun e w11 ⟨⟨q2, d2, he, ho2⟩, k11⟩ => ⟨_, _, _, _, _, _, _, _, _, _, he, k810.trans k11, ?_⟩⟩
        have k811 := k810.trans k11
        refine ⟨(xcheck_any ⟨toD a.d, q2, d2⟩ w11 (MOr.row ho2) zx).mono fun e w12 ⟨he, k12⟩ => ⟨_, he, k811.trans k12, _, _, _, _, _, _, _, _, _, _, gimp_intro fun _ wx k => AtL_block (K0.blk_ k hx) rfl, _, _, _, _, _, _, _, _, _, _, gimp_intro fun _ wx k => AtL_block (K0.blk_ (kc8.trans k) hc1) rfl, bsp_intro (fun _ => ?_) (fun h => by simp at h)⟩⟩
        have k812 := k811.trans k12
        refine ⟨(hA w12 (kc8.trans k812)).mono fun e w13 ⟨⟨q5, d5, he, ho5⟩, k13⟩ => ⟨_, _, _, _, _, _, _, _, _, _, he, k812.trans k13, ?_⟩⟩
        have k813 := k812.trans k13
        refine ⟨(dequal_any ⟨toD a.d, qa, da⟩ ⟨toD a.d, q5, d5⟩ w13 (hra.k0 k813) (MO.row ho5) zx zx (Nat.le_trans lx (by decide))).mono fun e w14 ⟨he, k14⟩ => ⟨_, he, k813.trans k14, _, _, _, _, _, _, _, _, _, _, gimp_intro fun _ wx k => AtL_block (K0.blk_ k hx) rfl, _, _, _, _, _, _, _, _, _, _, gimp_intro fun _ wx k => AtL_block (K0.blk_ k hy) rfl, _, _, _, _, _, _, _, _, _, _, gimp_intro fun _ wx k => AtL_block (K0.blk_ k hx) rfl, _, _, _, _, _, _, _, _, _, _, gimp_intro fun _ wx k => AtL_block (K0.blk_ k hy) rfl, bsp_intro (fun _ => ?_) (fun h => by rw [dEq_self] at h; cases h)⟩⟩
        have k814 := k813.trans k14
        refine ⟨(dequal_any ⟨toD a.d, qa, da⟩ ⟨toD b.d, qb, db⟩ w14 (hra.k0 k814) (hrb.k0 k814) zx zy (Nat.le_trans lx (by decide))).mono fun e w15 ⟨he, k15⟩ => ⟨_, he, k814.trans k15, ?_⟩⟩
        have k815 := k814.trans k15
        refine ⟨(lof_any ⟨toD a.d, qa, da⟩ w15 (hra.k0 k815) (Nat.le_trans lx (by decide))).mono fun e w16 ⟨⟨q3, d3, he, ho3⟩, k16⟩ => ⟨_, _, _, _, _, _, _, _, _, _, he, k815.trans k16, ?_⟩⟩
        have k816 := k815.trans k16
        refine ⟨(lof_any ⟨toD b.d, qb, db⟩ w16 (hrb.k0 k816) (Nat.le_trans ly (by decide))).mono fun e w17 ⟨⟨q4, d4, he, ho4⟩, k17⟩ => ⟨_, _, _, _, _, _, _, _, _, _, he, ?_⟩⟩
        have k817 := k816.trans k17
        refine ⟨(xsame_any ⟨toD a.d, q3, d3⟩ ⟨toD b.d, q4, d4⟩ w17 ((MOr.row ho3).k0 k17) (MOr.row ho4) zx zy (Nat.le_trans lx (by decide))).mono fun e w18 ⟨he, k18⟩ => ⟨_, he, .of_k0 (k817.trans k18), ?_, kW.trans (kc8.trans (k817.trans k18))⟩⟩
        generalize dEq (toD a.d) (toD b.d) = z
        cases z <;> rfl
      · refine fun nx w3 hn => ⟨kc.trans (hn.kp _), ?_⟩
        have hx := hn.block
        have gx := Nat.le_trans kc.size hn.ge
        have hne : nx ≠ ny := by have h1 := block_lt hy; have h2 := hn.ge; omega
        have ha := owns_kp ha (hn.kp (fun _ => False)) (fun _ _ h => h)
        have hy := K0.blk_ (hn.kp (fun _ => False)) hy
        have kc := kc.trans (hn.kp (fun _ => False))
        refine ⟨(hB _ kc).mono fun e w4 ⟨⟨qb, db, he, hb⟩, kk⟩ => ⟨_, _, _, _, _, _, _, _, _, _, he, ?_⟩⟩
        have hb := own_base hb kc.size
        have ha := owns_kp ha kk (fun _ _ h => h)
        have hx := K0.blk_ kk hx
        have hy := K0.blk_ kk hy
        have kc := kc.trans kk
        refine ⟨WrL_block hx (Nat.le_refl 54), fun wp hp => ?_⟩
        have ha := owns_kp ha hp.kp (fun k hk e => own_not ha hx rfl (by rw [hk, e]))
        have hb := owns_kp hb hp.kp (fun k hk e => own_not hb hx rfl (by rw [hk, e]))
        have hy := hp.blk hy (fun e => hne e.symm)
        have hx := hp.full hx rfl
        have kc := put_k0 kc hp gx
        refine ⟨WrL_block hy (Nat.le_refl 54), fun wq hp => ?_⟩
        have ha := owns_kp ha hp.kp (fun k hk e => own_not ha hy rfl (by rw [hk, e]))
        have hb := owns_kp hb hp.kp (fun k hk e => own_not hb hy rfl (by rw [hk, e]))
        have hx := hp.blk hx hne
        have hy := hp.full hy rfl
        have kc := put_k0 kc hp gy
        clear hp
        refine ⟨.of_k0 kc, ?_⟩
        intro W8 hW8
        have k8 : K0 wq W8 := hW8.kk rfl
        have kc8 := kc.trans k8
        have hx := K0.blk_ k8 hx
        have hy := K0.blk_ k8 hy
        have hra := (MO.row ha).k0 k8
        have hrb := (MO.row hb).k0 k8
        have hda := own_le ha
        refine ⟨fun wx => K0 W8 wx, .refl _ _, ⟨(known_any W8 (hG' (kW.trans kc8))).mono fun e w9 ⟨he, k9⟩ => ⟨_, he, k9, _, _, _, _, _, _, _, _, _, _, gimp_intro fun _ wx k => AtL_block (K0.blk_ k hx) rfl, _, _, _, _, _, _, _, _, _, _, gimp_intro fun _ wx k => AtL_block (K0.blk_ k hx) rfl, bsp_intro (fun _ => ?_) (fun h => by cases h)⟩⟩⟩
        refine ⟨(dcheck_any ⟨toD a.d, qa, da⟩ w9 (hra.k0 k9) hda zx (hG' (kW.trans (kc8.trans k9)))).mono fun e w10 ⟨he, k10⟩ => ⟨_, he, k9.trans k10, ?_⟩⟩
        have k810 := k9.trans k10
        refine ⟨(lof_any ⟨toD a.d, qa, da⟩ w10 (hra.k0 k810) (Nat.le_trans lx (by decide))).mono fun e w11 ⟨⟨q2, d2, he, ho2⟩, k11⟩ => ⟨_, _, _, _, _, _, _, _, _, _, he, k810.trans k11, ?_⟩⟩
        have k811 := k810.trans k11
        refine ⟨(xcheck_any ⟨toD a.d, q2, d2⟩ w11 (MOr.row ho2) zx).mono fun e w12 ⟨he, k12⟩ => ⟨_, he, k811.trans k12, _, _, _, _, _, _, _, _, _, _, gimp_intro fun _ wx k => AtL_block (K0.blk_ k hx) rfl, _, _, _, _, _, _, _, _, _, _, gimp_intro fun _ wx k => AtL_block (K0.blk_ (kc8.trans k) hc1) rfl, bsp_intro (fun _ => ?_) (fun h => by simp at h)⟩⟩
        have k812 := k811.trans k12
        refine ⟨(hA w12 (kc8.trans k812)).mono fun e w13 ⟨⟨q5, d5, he, ho5⟩, k13⟩ => ⟨_, _, _, _, _, _, _, _, _, _, he, k812.trans k13, ?_⟩⟩
        have k813 := k812.trans k13
        refine ⟨(dequal_any ⟨toD a.d, qa, da⟩ ⟨toD a.d, q5, d5⟩ w13 (hra.k0 k813) (MO.row ho5) zx zx (Nat.le_trans lx (by decide))).mono fun e w14 ⟨he, k14⟩ => ⟨_, he, k813.trans k14, _, _, _, _, _, _, _, _, _, _, gimp_intro fun _ wx k => AtL_block (K0.blk_ k hx) rfl, _, _, _, _, _, _, _, _, _, _, gimp_intro fun _ wx k => AtL_block (K0.blk_ k hy) rfl, _, _, _, _, _, _, _, _, _, _, gimp_intro fun _ wx k => AtL_block (K0.blk_ k hx) rfl, _, _, _, _, _, _, _, _, _, _, gimp_intro fun _ wx k => AtL_block (K0.blk_ k hy) rfl, bsp_intro (fun _ => ?_) (fun h => by rw [dEq_self] at h; cases h)⟩⟩
        have k814 := k813.trans k14
        refine ⟨(dequal_any ⟨toD a.d, qa, da⟩ ⟨toD b.d, qb, db⟩ w14 (hra.k0 k814) (hrb.k0 k814) zx zy (Nat.le_trans lx (by decide))).mono fun e w15 ⟨he, k15⟩ => ⟨_, he, k814.trans k15, ?_⟩⟩
        have k815 := k814.trans k15
        refine ⟨(lof_any ⟨toD a.d, qa, da⟩ w15 (hra.k0 k815) (Nat.le_trans lx (by decide))).mono fun e w16 ⟨⟨q3, d3, he, ho3⟩, k16⟩ => ⟨_, _, _, _, _, _, _, _, _, _, he, k815.trans k16, ?_⟩⟩
        have k816 := k815.trans k16
        refine ⟨(lof_any ⟨toD b.d, qb, db⟩ w16 (hrb.k0 k816) (Nat.le_trans ly (by decide))).mono fun e w17 ⟨⟨q4, d4, he, ho4⟩, k17⟩ => ⟨_, _, _, _, _, _, _, _, _, _, he, ?_⟩⟩
        have k817 := k816.trans k17
        refine ⟨(xsame_any ⟨toD a.d, q3, d3⟩ ⟨toD b.d, q4, d4⟩ w17 ((MOr.row ho3).k0 k17) (MOr.row ho4) zx zy (Nat.le_trans lx (by decide))).mono fun e w18 ⟨he, k18⟩ => ⟨_, he, .of_k0 (k817.trans k18), ?_, kW.trans (kc8.trans (k817.trans k18))⟩⟩
        generalize dEq (toD a.d) (toD b.d) = z
        cases z <;> rfl
    · refine fun nx w2 hn => ⟨kc.trans (hn.kp _), ?_⟩
      have hx := hn.block
      have gx := Nat.le_trans kc.size hn.ge
      have hne : nx ≠ ny := by have h1 := block_lt hy; have h2 := hn.ge; omega
      have hy := K0.blk_ (hn.kp (fun _ => False)) hy
      have kc := kc.trans (hn.kp (fun _ => False))
      refine ⟨(hA _ kc).mono fun e w3 ⟨⟨qa, da, he, ha⟩, kk⟩ => ⟨_, _, _, _, _, _, _, _, _, _, he, kc.trans kk, ?_⟩⟩
      have ha := own_base ha kc.size
      have hx := K0.blk_ kk hx
      have hy := K0.blk_ kk hy
      have kc := kc.trans kk
      refine ⟨(hB _ kc).mono fun e w4 ⟨⟨qb, db, he, hb⟩, kk⟩ => ⟨_, _, _, _, _, _, _, _, _, _, he, ?_⟩⟩
      have hb := own_base hb kc.size
      have ha := owns_kp ha kk (fun _ _ h => h)
      have hx := K0.blk_ kk hx
      have hy := K0.blk_ kk hy
      have kc := kc.trans kk
      refine ⟨WrL_block hx (Nat.le_refl 54), fun wp hp => ?_⟩
      have ha := owns_kp ha hp.kp (fun k hk e => own_not ha hx rfl (by rw [hk, e]))
      have hb := owns_kp hb hp.kp (fun k hk e => own_not hb hx rfl (by rw [hk, e]))
      have hy := hp.blk hy (fun e => hne e.symm)
      have hx := hp.full hx rfl
      have kc := put_k0 kc hp gx
      refine ⟨WrL_block hy (Nat.le_refl 54), fun wq hp => ?_⟩
      have ha := owns_kp ha hp.kp (fun k hk e => own_not ha hy rfl (by rw [hk, e]))
      have hb := owns_kp hb hp.kp (fun k hk e => own_not hb hy rfl (by rw [hk, e]))
      have hx := hp.blk hx hne
      have hy := hp.full hy rfl
      have kc := put_k0 kc hp gy
      clear hp
      refine ⟨.of_k0 kc, ?_⟩
      intro W8 hW8
      have k8 : K0 wq W8 := hW8.kk rfl
      have kc8 := kc.trans k8
      have hx := K0.blk_ k8 hx
      have hy := K0.blk_ k8 hy
      have hra := (MO.row ha).k0 k8
      have hrb := (MO.row hb).k0 k8
      have hda := own_le ha
      refine ⟨fun wx => K0 W8 wx, .refl _ _, ⟨(known_any W8 (hG' (kW.trans kc8))).mono fun e w9 ⟨he, k9⟩ => ⟨_, he, k9, _, _, _, _, _, _, _, _, _, _, gimp_intro fun _ wx k => AtL_block (K0.blk_ k hx) rfl, _, _, _, _, _, _, _, _, _, _, gimp_intro fun _ wx k => AtL_block (K0.blk_ k hx) rfl, bsp_intro (fun _ => ?_) (fun h => by cases h)⟩⟩⟩
      refine ⟨(dcheck_any ⟨toD a.d, qa, da⟩ w9 (hra.k0 k9) hda zx (hG' (kW.trans (kc8.trans k9)))).mono fun e w10 ⟨he, k10⟩ => ⟨_, he, k9.trans k10, ?_⟩⟩
      have k810 := k9.trans k10
      refine ⟨(lof_any ⟨toD a.d, qa, da⟩ w10 (hra.k0 k810) (Nat.le_trans lx (by decide))).mono fun e w11 ⟨⟨q2, d2, he, ho2⟩, k11⟩ => ⟨_, _, _, _, _, _, _, _, _, _, he, k810.trans k11, ?_⟩⟩
      have k811 := k810.trans k11
      refine ⟨(xcheck_any ⟨toD a.d, q2, d2⟩ w11 (MOr.row ho2) zx).mono fun e w12 ⟨he, k12⟩ => ⟨_, he, k811.trans k12, _, _, _, _, _, _, _, _, _, _, gimp_intro fun _ wx k => AtL_block (K0.blk_ k hx) rfl, _, _, _, _, _, _, _, _, _, _, gimp_intro fun _ wx k => AtL_block (K0.blk_ (kc8.trans k) hc1) rfl, bsp_intro (fun _ => ?_) (fun h => by simp at h)⟩⟩
      have k812 := k811.trans k12
      refine ⟨(hA w12 (kc8.trans k812)).mono fun e w13 ⟨⟨q5, d5, he, ho5⟩, k13⟩ => ⟨_, _, _, _, _, _, _, _, _, _, he, k812.trans k13, ?_⟩⟩
      have k813 := k812.trans k13
      refine ⟨(dequal_any ⟨toD a.d, qa, da⟩ ⟨toD a.d, q5, d5⟩ w13 (hra.k0 k813) (MO.row ho5) zx zx (Nat.le_trans lx (by decide))).mono fun e w14 ⟨he, k14⟩ => ⟨_, he, k813.trans k14, _, _, _, _, _, _, _, _, _, _, gimp_intro fun _ wx k => AtL_block (K0.blk_ k hx) rfl, _, _, _, _, _, _, _, _, _, _, gimp_intro fun _ wx k => AtL_block (K0.blk_ k hy) rfl, _, _, _, _, _, _, _, _, _, _, gimp_intro fun _ wx k => AtL_block (K0.blk_ k hx) rfl, _, _, _, _, _, _, _, _, _, _, gimp_intro fun _ wx k => AtL_block (K0.blk_ k hy) rfl, bsp_intro (fun _ => ?_) (fun h => by rw [dEq_self] at h; cases h)⟩⟩
      have k814 := k813.trans k14
      refine ⟨(dequal_any ⟨toD a.d, qa, da⟩ ⟨toD b.d, qb, db⟩ w14 (hra.k0 k814) (hrb.k0 k814) zx zy (Nat.le_trans lx (by decide))).mono fun e w15 ⟨he, k15⟩ => ⟨_, he, k814.trans k15, ?_⟩⟩
      have k815 := k814.trans k15
      refine ⟨(lof_any ⟨toD a.d, qa, da⟩ w15 (hra.k0 k815) (Nat.le_trans lx (by decide))).mono fun e w16 ⟨⟨q3, d3, he, ho3⟩, k16⟩ => ⟨_, _, _, _, _, _, _, _, _, _, he, k815.trans k16, ?_⟩⟩
      have k816 := k815.trans k16
      refine ⟨(lof_any ⟨toD b.d, qb, db⟩ w16 (hrb.k0 k816) (Nat.le_trans ly (by decide))).mono fun e w17 ⟨⟨q4, d4, he, ho4⟩, k17⟩ => ⟨_, _, _, _, _, _, _, _, _, _, he, ?_⟩⟩
      have k817 := k816.trans k17
      refine ⟨(xsame_any ⟨toD a.d, q3, d3⟩ ⟨toD b.d, q4, d4⟩ w17 ((MOr.row ho3).k0 k17) (MOr.row ho4) zx zy (Nat.le_trans lx (by decide))).mono fun e w18 ⟨he, k18⟩ => ⟨_, he, .of_k0 (k817.trans k18), ?_, kW.trans (kc8.trans (k817.trans k18))⟩⟩
      generalize dEq (toD a.d) (toD b.d) = z
      cases z <;> rfl

end Go.Proofs.YtkkfnlehlkiejaaGreatDoor
