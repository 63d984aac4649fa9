/- Chapter 21: RegistryAuthorities always returns true. The library's variable MaxLen holds a number. -/
import Derived.Test.YtkkfnlehlkiejaaGreatDoorZ10
import Derived.Test.YtkkfnlehlkiejaaGreatDoorZ11
namespace Go.Proofs.YtkkfnlehlkiejaaGreatDoor
open Go.RowKit Go.Maps

theorem autL_BY {l : List Au} (h : ∀ x ∈ l, BY x.au) : ∀ x ∈ autL l, BY x.au := fun x hx => by
  obtain ⟨y, hy, rfl⟩ := List.mem_map.1 hx
  exact h y (List.mem_of_mem_take hy)
theorem autL_sz {l : List Au} : ∀ x ∈ autL l, x.pt.size ≤ 1073741824 := fun x hx => by
  obtain ⟨y, _, rfl⟩ := List.mem_map.1 hx
  have := cutA_sz y
  omega
set_option maxHeartbeats 2000000 in
theorem lrauth_any (l : List Au) (p : Option Addr) (c : Nat) (s : ByteArray) (a : Nat → Int) (w : World) (hR : RowA atC 17 w p l) (hb : ∀ x ∈ l, BY x.au) (ha : BY a) (hG : GW w) :
    Calls Tryz.prog 3 #[.slice p l.length c, .string s, .agg (arrI .u8 a 16 0).toArray] w fun e w' => e = .returned (.bool true) ∧ K0 w w' := by
  refine vc_lrauth p l.length c s a w _ (fun n1 W hW => ?_)
  have kW : K0 w W := hW.kk rfl
  have b1 := hW.cells 0 rfl
  refine ⟨(lauths_any l p c W (hR.k0 kW)).mono fun e w1 ⟨⟨p1, c1, p2, c2, he, hr1, hr2⟩, k1⟩ => ⟨_, _, _, _, _, _, he, .of_k0 k1, ⟨by split <;> omega, by split <;> omega⟩, ?_⟩⟩
  have hsz : (s.extract 0 (if (100 : Int) < (s.size : Int) then (100 : Int) else (s.size : Int)).toNat).size ≤ 100 := by rw [ByteArray.size_extract]; split <;> omega
  generalize s.extract 0 _ = s' at *
  have hB := autL_BY hb
  have hS := @autL_sz l
  generalize autL l = A at *
  have k01 := kW.trans k1
  have hG' : ∀ {wa : World}, K0 w wa → GW wa := fun k => hG.kp k (fun h => h)
  refine ⟨(rnew_any A p1 c1 w1 hr1 hB hS (hG' k01)).mono fun e w2 ⟨hQ, k2⟩ => ?_⟩
  have k02 := k01.trans k2
  rcases hQ with ⟨h64, he⟩ | ⟨h64, hne, he⟩ | ⟨h64, hz, b, mb, he, hReg, _, _⟩
  · refine ⟨_, _, _, he, .of_k0 k2, ⟨(xnew_any A p2 c2 w2 (hr2.k0 k2) hS).mono fun e w3 ⟨hQ, k3⟩ => ?_⟩⟩
    rcases hQ with ⟨_, he⟩ | ⟨h, _⟩ | ⟨h, _⟩
    · refine ⟨_, _, _, _, _, _, _, _, he, .of_k0 k3, fun n4 => bsp_intro (fun _ => fun W4 hW4 => ?_) (fun h => by cases h)⟩
      have k4 : K0 w3 W4 := hW4.kk rfl
      have k04 := (k02.trans k3).trans k4
      exact ⟨(known_any W4 (hG' k04)).mono fun e w5 ⟨he, k5⟩ => ⟨_, he, .of_k0 k5, rfl, k04.trans k5⟩⟩
    · omega
    · omega
  · refine ⟨_, _, _, he, .of_k0 k2, ⟨(xnew_any A p2 c2 w2 (hr2.k0 k2) hS).mono fun e w3 ⟨hQ, k3⟩ => ?_⟩⟩
    rcases hQ with ⟨h, _⟩ | ⟨_, _, he⟩ | ⟨_, h, _⟩
    · omega
    · have hc : ((newE A 0).2 != 0) = true := by simpa using hne
      refine ⟨_, _, _, _, _, _, _, _, he, .of_k0 k3, fun n4 => bsp_intro (fun _ => fun W4 hW4 => ?_) (fun h => by rw [hc] at h; cases h)⟩
      have k4 : K0 w3 W4 := hW4.kk rfl
      have k04 := (k02.trans k3).trans k4
      exact ⟨(known_any W4 (hG' k04)).mono fun e w5 ⟨he, k5⟩ => ⟨_, he, .of_k0 k5, by simp, k04.trans k5⟩⟩
    · rw [h] at hne; exact absurd rfl hne
  · refine ⟨_, _, _, he, .of_k0 k2, ⟨(xnew_any A p2 c2 w2 (hr2.k0 k2) hS).mono fun e w3 ⟨hQ, k3⟩ => ?_⟩⟩
    rcases hQ with ⟨h, _⟩ | ⟨_, h, _⟩ | ⟨_, _, ap, ac, he, hra⟩
    · omega
    · rw [hz] at h; exact absurd rfl h
    · refine ⟨_, _, _, _, _, _, _, _, he, .of_k0 k3, fun n4 => bsp_intro (fun h => by cases h) (fun _ => fun W4 hW4 => ?_)⟩
      have k4 : K0 w3 W4 := hW4.kk rfl
      have k04 := (k02.trans k3).trans k4
      have b4 := hW4.cells 0 rfl
      have b14 := hW4.cells 1 rfl
      refine ⟨fun wx => K0 W4 wx, .refl _ _, ⟨(known_any W4 (hG' k04)).mono fun e w5 ⟨he, k5⟩ => ⟨_, he, k5, a, gimp_intro fun _ wx k => AtL_block (k.blk b14 (fun h => h)) rfl, ap, A.length, ac, none, 0, 0, gimp_intro fun _ wx k => AtL_block (k.blk b4 (fun h => h)) rfl, a, gimp_intro fun _ wx k => AtL_block (k.blk b14 (fun h => h)) rfl, bsp_intro (fun _ => ?_) (fun h => by cases h)⟩⟩⟩
      have hall := newE_all A 0 (by rw [hz])
      have k25 := (k3.trans k4).trans k5
      refine ⟨(risauth_any (hReg.st.k0 k25) hB h64 s' a ha (by omega)).mono fun e w6 ⟨he, k6⟩ => ⟨_, he, k5.trans k6, ?_⟩⟩
      refine ⟨(xauth_any A ap ac none 0 0 s' a w6 (hra.k0 ((k4.trans k5).trans k6)) hB h64 hall hS ha (by omega)).mono fun e w7 ⟨he, k7⟩ => ⟨_, he, .of_k0 ((k5.trans k6).trans k7), by simp, ((k04.trans k5).trans k6).trans k7⟩⟩

end Go.Proofs.YtkkfnlehlkiejaaGreatDoor
