/- Chapter 39: the example of the chapter holds; ModerationNew on worlds. The library's variable MaxLen holds a number. -/
import Derived.Test.YtfacflbmlfbeeaaGreatDoorZ10
import Derived.Test.YtfacflbmlfbeeaaGreatDoorProg
import Derived.Test.YtfacflbmlfbeeaaGreatDoorZ02
import Derived.Test.YtfacflbmlfbeeaaGreatDoorZ04
import Derived.Test.YtfacflbmlfbeeaaGreatDoorZ03
import Derived.KernelRfl
import Derived.Test.YtfacflbmlfbeeaaGreatDoorZ07
import Derived.Test.YtfacflbmlfbeeaaGreatDoorZ08
import Derived.Test.YtfacflbmlfbeeaaGreatDoorZ05
namespace Go.Proofs.YtfacflbmlfbeeaaGreatDoor
open Go.RowKit Go.Sort Go.Maps
theorem kidEq {u v : Int} (hu : 0 <= u /\ u <= 255) (hv : 0 <= v /\ v <= 255) {r : Bool} (hr : r = decide (idI (k39 u) = idI (k39 v))) : EqP Tryz.prog 32 (.agg (arrI .u8 (k39 u) 32 0).toArray) (.agg (arrI .u8 (k39 v) 32 0).toArray) r := by
 rw [hr]; exact idEqF (k39_BY hu) (k39_BY hv)
set_option maxRecDepth 100000 in
set_option maxHeartbeats 8000000 in
theorem known_any (w : World) (hG : GW w) : Calls Tryz.prog 14 #[] w fun e w' => e = .returned (.bool true) /\ K0 w w' := by
 have hw0 : 0 < w.heap.size := by
  obtain ⟨m, hm⟩ := hG
  unfold World.cell? at hm
  rcases Nat.lt_or_ge 0 w.heap.size with h | h
  ·exact h
  ·simp only [Array.getElem?_eq_none h] at hm
   cases hm
 refine vc_lknown w _ ⟨(mnew_any 5 14 w hw0).mono fun e w1 hN => ?_⟩
 rcases hN with ⟨h, _⟩ | ⟨_, b, mb, eb, he, hq, k1, gb, gm, ge⟩
 ·exact absurd h (by decide)
 refine ⟨_, _, he, .of_k0 k1, bsp_intro (fun h => by cases h) (fun _ n n1 n2 n3 n4 W hW => ?_)⟩
 have k2 : K0 w1 W := hW.kk rfl
 have fresh : ∀ {wa wb : World}, K0 w wa -> Kp (QB b mb eb) wa wb -> K0 w wb := fun ka hk => ka.fresh hk (fun j hj e => by rcases e with e | e | e <;> omega)
 have hG' : ∀ {wa : World}, K0 w wa -> GW wa := fun k => hG.kp k (fun h => h)
 have c0 := hW.cells 0 rfl
 have c1 := hW.cells 1 rfl
 have c2 := hW.cells 2 rfl
 have c3 := hW.cells 3 rfl
 have c4 := hW.cells 4 rfl
 have kT2 := k1.trans k2
 have hR : RowA auC 16 W (some ⟨n4, 0, none⟩) [k39 2, k39 1] := fun k y hy => by
  match k, hy with
  | 0, hy => cases hy; exact ⟨n4, 0, rfl, AtL_block c0 rfl⟩
  | 1, hy => cases hy; exact ⟨n4, 0, rfl, AtL_block c0 rfl⟩
  | k + 2, hy => cases hy
 have q2 := hq.k0 k2
 have hb1 := block_lt hq.st
 have hm1 := hq.mm.lt
 have he1 := hq.me.lt
 have kept : ∀ {wa wb : World} {ns : List Nat}, Kp (QB b mb eb) wa wb -> (∀ z ∈ ns, w1.heap.size <= z) -> KeptL ns wa wb := fun hk hns => .of_kp hk fun z hz e => by
  have := hns z hz
  rcases e with e | e | e <;> omega
 have g0 : w1.heap.size <= n4 := hW.fresh 0 rfl rfl
 have g1 : w1.heap.size <= n3 := hW.fresh 1 rfl rfl
 have g2 : w1.heap.size <= n2 := hW.fresh 2 rfl rfl
 have g3 : w1.heap.size <= n1 := hW.fresh 3 rfl rfl
 have g4 : w1.heap.size <= n := hW.fresh 4 rfl rfl
 have gN : ∀ z ∈ [n3, n2, n1, n], w1.heap.size <= z := fun z hz => by
  simp only [List.mem_cons, List.not_mem_nil, or_false] at hz
  rcases hz with rfl | rfl | rfl | rfl <;> assumption
 have cons : ∀ {z : Nat} {ns : List Nat}, w1.heap.size <= z -> (∀ y ∈ ns, w1.heap.size <= y) -> ∀ y ∈ z :: ns, w1.heap.size <= y := fun hz hns y hy => by
  rcases List.mem_cons.1 hy with rfl | h
  ·exact hz
  ·exact hns y h
 have b7 : BY (k39 7) := k39_BY (by decide)
 have b3 : BY (k39 3) := k39_BY (by decide)
 have b1 : BY (k39 1) := k39_BY (by decide)
 have b2 : BY (k39 2) := k39_BY (by decide)
 have gk : kG.size <= 1073741824 := by decide
 refine ⟨(setMods_any q2 kG [k39 2, k39 1] (some ⟨n4, 0, none⟩) 2 hR (fun g o e => by cases e; exact block_lt c0) (fun m hm => (kml m hm).1) (hG' kT2)).mono fun e w3 ⟨he, ⟨q', hS, hq3⟩, k3⟩ => ?_⟩
 have hok3 := kq0_ok.setR kml hS
 obtain ⟨x, hx, rfl⟩ := kset_iff hS
 rw [k_set] at he
 refine ⟨_, he, kept k3 gN, ?_⟩
 have kT3 := fresh kT2 k3
 refine ⟨(submit_any hq3 hok3 (k39 7) b7 kG kX 10 (hG' kT3)).mono fun e w4 ⟨he, hq4, k4⟩ => ?_⟩
 have hok4 := hok3.sub (g := kG) (tx := kX) (now := 10) ⟨b7, k39_NZ (by decide) 7⟩
 rw [k_sub1 hx] at he
 rw [k_subQ1 hx] at hq4 hok4
 refine ⟨_, he, kept k4 gN, ?_⟩
 have kT4 := fresh kT3 k4
 refine ⟨(submit_any hq4 hok4 (k39 3) b3 kG kY 5 (hG' kT4)).mono fun e w5 ⟨he, hq5, k5⟩ => ?_⟩
 have hok5 := hok4.sub (g := kG) (tx := kY) (now := 5) ⟨b3, k39_NZ (by decide) 3⟩
 rw [k_sub2 hx] at he
 rw [k_subQ2 hx] at hq5 hok5
 refine ⟨_, he, kept k5 gN, ?_⟩
 have kT5 := fresh kT4 k5
 refine ⟨(claim_any hq5 hok5 (show (2 : Nat) <= 1000000 by decide) kG gk (k39 1) b1 20 (hG' kT5)).mono fun e w6 hC => ?_⟩
 have hC1 := k_clm hx 1 (.inl rfl) (es := [(kx, kex), (ky, key_)]) (by rw [k_sel1]; decide)
 rcases hC with ⟨h, _⟩ | ⟨_, s, hs, hmin, he, hq6, k6⟩
 ·exact absurd hC1 h
 rw [k_sel1] at hs hmin
 obtain rfl := k_min hs hmin
 have hok6 := hok5.clm hq5.dis (P := clP kG (auI (k39 1)) 20) (x := key_.s) (a := k39 1) (now := 20) (by show key_.s ∈ isSel (kq x 2 [(kx, kex), (ky, key_)]) kG (auI (k39 1)) 20; rw [k_sel1]; exact hs) ⟨b1, k39_NZ (by decide) 1⟩ ⟨by decide, by decide⟩
 have e6 : ({ kq x 2 [(kx, kex), (ky, key_)] with es := aset (kq x 2 [(kx, kex), (ky, key_)]).es key_.s.ky ⟨key_.s, true, k39 1, 20⟩ } : Qu) = kq x 2 [(kx, kex), (ky, key2)] := by
  show kq x 2 (aset [(kx, kex), (ky, key_)] ky key2) = _
  rw [k_set1]
 rw [e6] at hq6 hok6
 refine ⟨_, _, _, _, _, _, _, _, _, he, kept k6 gN, fun n5 W7 hW7 => ?_⟩
 have kT6 := fresh kT5 k6
 have k7 : K0 w6 W7 := hW7.kk rfl
 have kT7 := kT6.trans k7
 have gn5 : w1.heap.size <= n5 := by
  have h1 : w6.heap.size <= n5 := hW7.fresh 0 rfl rfl
  have h2 := k2.size
  have h3 := k3.size
  have h4 := k4.size
  have h5 := k5.size
  have h6 := k6.size
  omega
 have gN5 := cons gn5 gN
 have hq7 := hq6.k0 k7
 refine ⟨(claim_any hq7 hok6 (show (2 : Nat) <= 1000000 by decide) kG gk (k39 1) b1 20 (hG' kT7)).mono fun e w8 hC => ?_⟩
 have hC2 := k_clm hx 1 (.inl rfl) (es := [(kx, kex), (ky, key2)]) (by rw [k_sel2]; decide)
 rcases hC with ⟨h, _⟩ | ⟨_, s, hs, hmin, he, hq8, k8⟩
 ·exact absurd hC2 h
 rw [k_sel2] at hs hmin
 obtain rfl := k_min hs hmin
 have hok8 := hok6.clm hq7.dis (P := clP kG (auI (k39 1)) 20) (x := key_.s) (a := k39 1) (now := 20) (by show key_.s ∈ isSel (kq x 2 [(kx, kex), (ky, key2)]) kG (auI (k39 1)) 20; rw [k_sel2]; exact hs) ⟨b1, k39_NZ (by decide) 1⟩ ⟨by decide, by decide⟩
 have e8 : ({ kq x 2 [(kx, kex), (ky, key2)] with es := aset (kq x 2 [(kx, kex), (ky, key2)]).es key_.s.ky ⟨key_.s, true, k39 1, 20⟩ } : Qu) = kq x 2 [(kx, kex), (ky, key2)] := by
  show kq x 2 (aset [(kx, kex), (ky, key2)] ky key2) = _
  rw [k_set1]
 rw [e8] at hq8 hok8
 refine ⟨_, _, _, _, _, _, _, _, _, he, kept k8 gN5, fun n6 W9 hW9 => ?_⟩
 have kT8 := fresh kT7 k8
 have k9 : K0 w8 W9 := hW9.kk rfl
 have kT9 := kT8.trans k9
 have gn6 : w1.heap.size <= n6 := by
  have h1 : w8.heap.size <= n6 := hW9.fresh 0 rfl rfl
  have h2 := k2.size
  have h3 := k3.size
  have h4 := k4.size
  have h5 := k5.size
  have h6 := k6.size
  have h7 := k7.size
  have h8 := k8.size
  omega
 have gN6 := cons gn6 gN5
 have hq9 := hq8.k0 k9
 refine ⟨(claim_any hq9 hok8 (show (2 : Nat) <= 1000000 by decide) kG gk (k39 2) b2 20 (hG' kT9)).mono fun e w10 hC => ?_⟩
 have hC3 := k_clm hx 2 (.inr rfl) (es := [(kx, kex), (ky, key2)]) (by rw [k_sel3]; decide)
 rcases hC with ⟨h, _⟩ | ⟨_, s, hs, hmin, he, hq10, k10⟩
 ·exact absurd hC3 h
 rw [k_sel3] at hs hmin
 obtain rfl : s = kex.s := by simpa using hs
 have hok10 := hok8.clm hq9.dis (P := clP kG (auI (k39 2)) 20) (x := kex.s) (a := k39 2) (now := 20) (by show kex.s ∈ isSel (kq x 2 [(kx, kex), (ky, key2)]) kG (auI (k39 2)) 20; rw [k_sel3]; exact hs) ⟨b2, k39_NZ (by decide) 2⟩ ⟨by decide, by decide⟩
 have e10 : ({ kq x 2 [(kx, kex), (ky, key2)] with es := aset (kq x 2 [(kx, kex), (ky, key2)]).es kex.s.ky ⟨kex.s, true, k39 2, 20⟩ } : Qu) = kq x 2 [(kx, kex2), (ky, key2)] := by
  show kq x 2 (aset [(kx, kex), (ky, key2)] kx kex2) = _
  rw [k_set2]
 rw [e10] at hq10 hok10
 refine ⟨_, _, _, _, _, _, _, _, _, he, kept k10 gN6, fun n7 W11 hW11 => ?_⟩
 have kT10 := fresh kT9 k10
 have k11 : K0 w10 W11 := hW11.kk rfl
 have kT11 := kT10.trans k11
 have gn7 : w1.heap.size <= n7 := by
  have h1 : w10.heap.size <= n7 := hW11.fresh 0 rfl rfl
  have h2 := k2.size
  have h3 := k3.size
  have h4 := k4.size
  have h5 := k5.size
  have h6 := k6.size
  have h7 := k7.size
  have h8 := k8.size
  have h9 := k9.size
  have h10 := k10.size
  omega
 have gN7 := cons gn7 gN6
 have hq11 := hq10.k0 k11
 refine ⟨(approve_any hq11 hok10 (show (2 : Nat) <= 10000 by decide) (k39 3) b3 kG gk (k39 2) b2 79).mono fun e w12 ⟨he, hq12, k12⟩ => ?_⟩
 rw [k_ap79 hx] at he
 rw [k_apQ79 hx] at hq12
 refine ⟨0, fun _ => 0, ⟨#[]⟩, 0, false, none, 0, 0, ⟨#[]⟩, 0, 0, fun _ => 0, 25, he, kept k12 gN7, fun n9 W13 hW13 => ?_⟩
 have kT12 := fresh kT11 k12
 have k13 : K0 w12 W13 := hW13.kk rfl
 have kT13 := kT12.trans k13
 have gn9 : w1.heap.size <= n9 := by
  have h1 : w12.heap.size <= n9 := hW13.fresh 0 rfl rfl
  have h2 := k2.size
  have h3 := k3.size
  have h4 := k4.size
  have h5 := k5.size
  have h6 := k6.size
  have h7 := k7.size
  have h8 := k8.size
  have h9 := k9.size
  have h10 := k10.size
  have h11 := k11.size
  have h12 := k12.size
  omega
 have gN9 := cons gn9 gN7
 have hq13 := hq12.k0 k13
 refine ⟨(approve_any hq13 hok10 (show (2 : Nat) <= 10000 by decide) (k39 3) b3 kG gk (k39 2) b2 80).mono fun e w14 ⟨he, hq14, k14⟩ => ?_⟩
 have hok14 : (apQ (kq x 2 [(kx, kex2), (ky, key2)]) (k39 3) kG (k39 2) 80 1 ⟨#[]⟩).OK := by
  unfold apQ
  rw [if_neg (by decide)]
  exact hok10.dec ⟨b2, k39_NZ (by decide) 2⟩ ⟨by decide, by decide⟩ ⟨by decide, by decide⟩ (by decide)
 rw [k_ap80 hx] at he
 rw [k_apQ80 hx] at hq14 hok14
 have kT14 := fresh kT13 k14
 refine ⟨2, k39 3, kG, 0, false, none, 0, 0, ⟨#[]⟩, 0, 0, fun _ => 0, 0, he, kept k14 gN9, fun n11 => ?_⟩
 refine ⟨k39 3, gimp_intro fun _ W15 hW15 => AtL_block (hW15.cells 4 rfl) rfl, true, gimp_intro fun _ => kidEq (by decide) (by decide) (by decide +kernel), kY, gimp_intro fun _ W15 hW15 => cell_at (hW15.cells 4 rfl) rfl,
  k39 3, gimp_intro fun _ W15 hW15 => AtL_block (hW15.cells 3 rfl) rfl, true, gimp_intro fun _ => kidEq (by decide) (by decide) (by decide +kernel),
  k39 7, gimp_intro fun _ W15 hW15 => AtL_block (hW15.cells 2 rfl) rfl, true, gimp_intro fun _ => kidEq (by decide) (by decide) (by decide +kernel),
  2, gimp_intro fun _ W15 hW15 => cell_at (hW15.cells 0 rfl) rfl, k39 3, gimp_intro fun _ W15 hW15 => AtL_block (hW15.cells 0 rfl) rfl, true, gimp_intro fun _ => kidEq (by decide) (by decide) (by decide +kernel), kG, gimp_intro fun _ W15 hW15 => cell_at (hW15.cells 0 rfl) rfl, fun W15 hW15 => ?_⟩
 have k15 : K0 w14 W15 := hW15.kk rfl
 have kT15 := kT14.trans k15
 refine bsp_intro (fun _ => ?_) (fun h => absurd h (by decide +kernel))
 refine ⟨(count_any (hq14.k0 k15) hok14 (show (2 : Nat) <= 1000000 by decide) kG 1 (hG' kT15)).mono fun e w16 ⟨he, k16⟩ => ⟨_, he, .of_k0 k16, ?_, kT15.trans k16⟩⟩
 show Ending.returned (.bool (true && (((selE (lsP kG 1) [(kx, kex2), (ky, key3)]).length : Nat) : Int) == 1)) = _
 rw [k_cnt]
 rfl
theorem mods_any {w : World} {b mb eb : Nat} {q : Qu} (h : Mq w b mb eb q) (ho : q.OK) (g : ByteArray) (hg : g.size <= 1073741824) :
  Calls Tryz.prog 16 #[.pointer (some ⟨b, 0, none⟩), .string g] w fun e w' => (∃ (p : Option Addr) (c : Nat), e = .returned (.slice p (q.md g).l.length c) /\ w'.ownsRow w.heap.size 45 16 (.slice p (q.md g).l.length c) (q.md g).l.length ((q.md g).l.flatMap auC)) /\ K0 w w' := by
 have hl : (q.md g).l.length <= 8 := by
  unfold Qu.md
  cases hgt : aget q.ms g with
  | none => decide
  | some x => exact (ho.ms g x hgt).2.1.len
 exact vc_mods b g w _ ⟨some mb, h.cM, _, _, _, h.lookM hg, ⟨(aclone_any (q.md g).l (q.md g).p (q.md g).c w (h.rowM g) (by omega)).mono fun e w1 hcl => by
  obtain ⟨⟨p, c, he, ho⟩, k1⟩ := hcl
  exact ⟨_, _, _, he, .of_k0 k1, ⟨p, c, rfl, ho⟩, k1⟩⟩⟩
end Go.Proofs.YtfacflbmlfbeeaaGreatDoor
namespace Go.Proofs.YtfacflbmlfbeeaaGreatDoor
set_option maxRecDepth 100000
set_option linter.unusedVariables false
def VC_lname (n : Int) (w : World) (R : Ending -> World -> Prop) : Prop := ∀ (n_1 : Nat) (W : World), Loc w.heap.size [Blk.mk n_1 9 [Value.string (ByteArray.mk #[103]), .string (ByteArray.mk #[103]), .string (ByteArray.mk #[97, 46, 98]), .string (ByteArray.mk #[103]), .string (ByteArray.mk #[104]), .string (ByteArray.mk #[]), .string (ByteArray.mk #[71])] 2] w W -> (0 <= n.tmod 7 /\ n.tmod 7 < (↑7 : Int)) /\ ∃ (x : ByteArray), W.cell? (Addr.mk n_1 (0 + (n.tmod 7).toNat) none) = some (.string x) /\ R (.returned (.string x)) W
theorem vc_lname (n : Int) (w : World) (R : Ending -> World -> Prop) (h : VC_lname n w R) : Calls Tryz.prog 30 ([Value.int .u8 n] : List Value).toArray w R :=
 calls_of_exec2' (loops := []) (tails := []) (joins := []) (boxes := []) (rngs := []) (c := Tryz.f30.body.getD .skip) pur1_ok Tryz.func30 (by kernel_rfl) (by kernel_rfl) h
def VC_lid (n : Int) (w : World) (R : Ending -> World -> Prop) : Prop := ∀ (n_1 : Nat) (W : World), Loc w.heap.size [Blk.mk n_1 32 [Value.int .u8 0, .int .u8 0, .int .u8 0, .int .u8 0, .int .u8 0, .int .u8 0, .int .u8 0, .int .u8 0, .int .u8 0, .int .u8 0, .int .u8 0, .int .u8 0, .int .u8 0, .int .u8 0, .int .u8 0, .int .u8 0, .int .u8 0, .int .u8 0, .int .u8 0, .int .u8 0, .int .u8 0, .int .u8 0, .int .u8 0, .int .u8 0, .int .u8 0, .int .u8 0, .int .u8 0, .int .u8 0, .int .u8 0, .int .u8 0, .int .u8 0, .int .u8 (n.tmod 6)] (wrM 2)] w W -> R (.returned (.agg #[.int .u8 0, .int .u8 0, .int .u8 0, .int .u8 0, .int .u8 0, .int .u8 0, .int .u8 0, .int .u8 0, .int .u8 0, .int .u8 0, .int .u8 0, .int .u8 0, .int .u8 0, .int .u8 0, .int .u8 0, .int .u8 0, .int .u8 0, .int .u8 0, .int .u8 0, .int .u8 0, .int .u8 0, .int .u8 0, .int .u8 0, .int .u8 0,
 .int .u8 0, .int .u8 0, .int .u8 0, .int .u8 0, .int .u8 0, .int .u8 0, .int .u8 0, .int .u8 (n.tmod 6)])) W
theorem vc_lid (n : Int) (w : World) (R : Ending -> World -> Prop) (h : VC_lid n w R) : Calls Tryz.prog 29 ([Value.int .u8 n] : List Value).toArray w R :=
 calls_of_exec2' (loops := []) (tails := []) (joins := []) (boxes := []) (rngs := []) (c := Tryz.f29.body.getD .skip) pur1_ok Tryz.func29 (by kernel_rfl) (by kernel_rfl) h
def VC_lauthor (n : Int) (w : World) (R : Ending -> World -> Prop) : Prop := ∀ (n_1 : Nat) (W : World), Loc w.heap.size [Blk.mk n_1 45 [Value.int .u8 0, .int .u8 0, .int .u8 0, .int .u8 0, .int .u8 0, .int .u8 0, .int .u8 0, .int .u8 0, .int .u8 0, .int .u8 0, .int .u8 0, .int .u8 0, .int .u8 0, .int .u8 0, .int .u8 0, .int .u8 (n.tmod 4)] (wrM 2)] w W -> R (.returned (.agg #[.int .u8 0, .int .u8 0, .int .u8 0, .int .u8 0, .int .u8 0, .int .u8 0, .int .u8 0, .int .u8 0, .int .u8 0, .int .u8 0, .int .u8 0, .int .u8 0, .int .u8 0, .int .u8 0, .int .u8 0, .int .u8 (n.tmod 4)])) W
theorem vc_lauthor (n : Int) (w : World) (R : Ending -> World -> Prop) (h : VC_lauthor n w R) : Calls Tryz.prog 20 ([Value.int .u8 n] : List Value).toArray w R :=
 calls_of_exec2' (loops := []) (tails := []) (joins := []) (boxes := []) (rngs := []) (c := Tryz.f20.body.getD .skip) pur1_ok Tryz.func20 (by kernel_rfl) (by kernel_rfl) h
end Go.Proofs.YtfacflbmlfbeeaaGreatDoor
namespace Go.Proofs.YtfacflbmlfbeeaaGreatDoor
open Go.RowKit Go.Sort Go.Maps
def nmG (n : Int) : ByteArray := match (n.tmod 7).toNat with
 | 2 => ⟨#[97, 46, 98]⟩
 | 4 => ⟨#[104]⟩
 | 5 => ⟨#[]⟩
 | 6 => ⟨#[71]⟩
 | _ => ⟨#[103]⟩
theorem lname_any (n : Int) (hn : 0 <= n) (w : World) : Calls Tryz.prog 30 #[.int .u8 n] w fun e w' => e = .returned (.string (nmG n)) /\ K0 w w' := by
 refine vc_lname n w _ (fun n1 W hW => ⟨?_, nmG n, ?_, rfl, hW.kk rfl⟩)
 ·rw [Int.tmod_eq_emod_of_nonneg hn]; omega
 ·have h7 : (n.tmod 7).toNat < 7 := by rw [Int.tmod_eq_emod_of_nonneg hn]; omega
  unfold nmG
  generalize (n.tmod 7).toNat = k at h7
  obtain rfl | rfl | rfl | rfl | rfl | rfl | rfl : k = 0 \/ k = 1 \/ k = 2 \/ k = 3 \/ k = 4 \/ k = 5 \/ k = 6 := by omega
  all_goals exact cell_at (hW.cells 0 rfl) rfl
def idN (n : Int) : Nat -> Int := fun j => if j = 31 then n.tmod 6 else 0
def auN (n : Int) : Nat -> Int := fun j => if j = 15 then n.tmod 4 else 0
theorem idN_ok {n : Int} (hn : 0 <= n) : BY (idN n) /\ NZ 32 (idN n) := by
 refine ⟨fun j => ?_, fun j hj => ?_⟩
 ·unfold idN
  rw [Int.tmod_eq_emod_of_nonneg hn]
  split <;> omega
 ·unfold idN
  rw [if_neg (by omega)]
theorem auN_ok {n : Int} (hn : 0 <= n) : BY (auN n) /\ NZ 16 (auN n) := by
 refine ⟨fun j => ?_, fun j hj => ?_⟩
 ·unfold auN
  rw [Int.tmod_eq_emod_of_nonneg hn]
  split <;> omega
 ·unfold auN
  rw [if_neg (by omega)]
theorem lid_any (n : Int) (w : World) : Calls Tryz.prog 29 #[.int .u8 n] w fun e w' => e = .returned (.agg (arrI .u8 (idN n) 32 0).toArray) /\ K0 w w' :=
 vc_lid n w _ (fun _ _ hW => ⟨rfl, hW.k0 (.refl _ _)⟩)
theorem lauthor_any (n : Int) (w : World) : Calls Tryz.prog 20 #[.int .u8 n] w fun e w' => e = .returned (.agg (arrI .u8 (auN n) 16 0).toArray) /\ K0 w w' :=
 vc_lauthor n w _ (fun _ _ hW => ⟨rfl, hW.k0 (.refl _ _)⟩)
end Go.Proofs.YtfacflbmlfbeeaaGreatDoor
namespace Go.Proofs.YtfacflbmlfbeeaaGreatDoor
open Go.RowKit Go.Sort Go.Maps
structure SW (w0 w : World) (b mb eb m : Nat) (q : Qu) (M : Mo) (P : Pl) : Prop where
 mq : Mq w b mb eb q
 qs : QSep w q
 mr : MoR w w0.heap.size m M P
 k : K0 w0 w
 gb : w0.heap.size <= b
 gm : w0.heap.size <= mb
 ge : w0.heap.size <= eb
section
variable {w0 w w' : World} {b mb eb m : Nat} {q q' : Qu} {M M' : Mo} {P P' : Pl}
theorem SW.k0 (h : SW w0 w b mb eb m q M P) (hk : K0 w w') : SW w0 w' b mb eb m q M P := ⟨h.mq.k0 hk, h.qs.k0 hk, h.mr.k0 hk, h.k.trans hk, h.gb, h.gm, h.ge⟩
theorem SW.qb (h : SW w0 w b mb eb m q M P) (hk : Kp (QB b mb eb) w w') : K0 w0 w' := h.k.fresh hk (fun i hi e => by
 have h1 := h.gb
 have h2 := h.gm
 have h3 := h.ge
 rcases e with e | e | e <;> omega)
theorem SW.mf (h : SW w0 w b mb eb m q M P) (hk : Kp (MF w w0.heap.size) w w') : K0 w0 w' := h.k.fresh hk (fun i hi e => by have := e.1; omega)
theorem SW.qopS (h : SW w0 w b mb eb m q M P) (hm : Mq w' b mb eb q') (hs : QSep w' q') (hk : Kp (QB b mb eb) w w') : SW w0 w' b mb eb m q' M P := ⟨hm, hs, h.mr.qb h.mq hk, h.qb hk, h.gb, h.gm, h.ge⟩
theorem SW.qop (h : SW w0 w b mb eb m q M P) (hm : Mq w' b mb eb q') (hk : Kp (QB b mb eb) w w') (he : q'.ms = q.ms) : SW w0 w' b mb eb m q' M P := h.qopS hm (fun g x hx => (h.qs.qb h.mq hk) g x (by rw [<- he]; exact hx)) hk
theorem SW.mop (h : SW w0 w b mb eb m q M P) (hr : MoR w' w0.heap.size m M' P') (hk : Kp (MF w w0.heap.size) w w') : SW w0 w' b mb eb m q M' P' := ⟨h.mq.mf h.qs hk, h.qs.mf hk, hr, h.mf hk, h.gb, h.gm, h.ge⟩
theorem SW.qk (h : SW w0 w b mb eb m q M P) (hk : Kp (QB b mb eb) w w') {ns : List Nat} (hn : ∀ n ∈ ns, ∃ c t f, w.heap[n]? = some (.cells c t f) /\ (t == 98) = false) : KeptL ns w w' := h.mq.kept hk (fun _ h => h) hn
theorem SW.gw (h : SW w0 w b mb eb m q M P) (hG : GW w0) : GW w := hG.kp h.k (fun h => h)
end
theorem subQ_ms (q : Qu) (id : Nat -> Int) (g tx : ByteArray) (now : Int) : (subQ q id g tx now).ms = q.ms := by unfold subQ; split <;> rfl
theorem relQ_ms (q : Qu) (id : Nat -> Int) (g : ByteArray) (a : Nat -> Int) (now : Int) : (relQ q id g a now).ms = q.ms := by unfold relQ; split <;> rfl
theorem decQ_ms (q : Qu) (id : Nat -> Int) (g : ByteArray) (a : Nat -> Int) (now st : Int) (rs : ByteArray) : (decQ q id g a now st rs).ms = q.ms := by unfold decQ; split <;> rfl
theorem apQ_ms (q : Qu) (id : Nat -> Int) (g : ByteArray) (a : Nat -> Int) (now st : Int) (rs : ByteArray) : (apQ q id g a now st rs).ms = q.ms := by unfold apQ; split; rfl; exact decQ_ms ..
theorem rejQ_ms (q : Qu) (id : Nat -> Int) (g : ByteArray) (a : Nat -> Int) (rs : ByteArray) (now : Int) : (rejQ q id g a rs now).ms = q.ms := by
 unfold rejQ
 repeat' split
 all_goals first | rfl | exact decQ_ms ..
theorem delA_ms : ∀ (L : List Sb) (q : Qu), (delA q L).ms = q.ms
 | [], _ => rfl
 | x :: L, q => (delA_ms L { q with es := adel q.es x.ky }).trans rfl
theorem nmG_sz (n : Int) : (nmG n).size <= 1073741824 := by
 unfold nmG
 repeat' split
 all_goals decide
def txO (t : ByteArray) : ByteArray := t.extract 0 (min t.size 300)
def auK (i a k : Int) : Nat -> Int := fun j => if j = 15 then (IntKind.u8.wrap (i * k + a)).tmod 10 else 0
theorem auK_ok (i a k : Int) : BY (auK i a k) /\ NZ 16 (auK i a k) := by
 refine ⟨fun j => ?_, fun j hj => ?_⟩
 ·unfold auK
  split
  ·have h : 0 <= IntKind.u8.wrap (i * k + a) := by unfold IntKind.wrap; simp [IntKind.bits, IntKind.signed]; omega
   rw [Int.tmod_eq_emod_of_nonneg h]
   omega
  ·omega
 ·unfold auK
  rw [if_neg (by omega)]
def moL (i a : Int) : List (Nat -> Int) := (List.range (a.tmod 12).toNat).map fun k : Nat => auK i a (k : Int)
theorem moL_ok {i a : Int} : ∀ z ∈ moL i a, BY z /\ NZ 16 z := fun z hz => by
 obtain ⟨k, _, rfl⟩ := List.mem_map.1 hz
 exact auK_ok ..
noncomputable def stpM (k i g a now : Int) (t : ByteArray) (M M' : Mo) : Prop :=
 match (k.tmod 8).toNat with
 | 0 => (xsubE M (idN i) (nmG g) (txO t) now = 0 /\ ∃ L : List En, L.Perm (newE (idN i) (nmG g) (txO t) now :: M.es) /\ M' = { M with es := L }) \/ (xsubE M (idN i) (nmG g) (txO t) now ≠ 0 /\ M' = M)
 | 1 => M' = xclM M (nmG g) (auN a) now
 | 2 => M' = xrlM M (idI (idN i), nmG g) (auN a) now
 | 3 => M' = xdcM M (idN i) (nmG g) (auN a) 1 ⟨#[]⟩ now
 | 4 => M' = xdcM M (idN i) (nmG g) (auN a) 2 (txO t) now
 | 5 => M' = xlpM M now
 | 6 => M' = { M with es := M.es.filter (kpP now) }
 | _ => (setE (nmG g) (moL i a) = 0 /\ ∃ X : MX, X.l.Perm (moL i a) /\ (X.l.Pairwise fun x y => cfA x y < 0) /\ M' = { M with gs := gset M.gs (nmG g) X }) \/ (setE (nmG g) (moL i a) ≠ 0 /\ M' = M)
end Go.Proofs.YtfacflbmlfbeeaaGreatDoor
namespace Go.Proofs.YtfacflbmlfbeeaaGreatDoor
open Go.RowKit Go.Sort Go.Maps
def ws (M : Mo) : Nat := (M.ls ⟨#[]⟩ 0).length
theorem lsP_e (st : Int) (x : En) : lsP ⟨#[]⟩ st x = (x.s.st == st) := by unfold lsP; simp
theorem ws_eq (M : Mo) : ws M = (M.es.filter fun x => x.s.st == 0).length := by
 unfold ws Mo.ls
 rw [List.length_map, show lsP ⟨#[]⟩ 0 = fun x => x.s.st == 0 from funext fun x => lsP_e 0 x]
def Chg (k g a : Int) (M : Mo) (y y' : En) : Prop :=
 (y'.s = y.s /\ (y'.ho = y.ho \/ y'.ho = auN a \/ y'.ho = fun _ => 0)) \/
 (y.s.st = 0 /\ y'.ho = (fun _ => 0) /\ y'.s.ky = y.s.ky /\ ((k.tmod 8 = 5 /\ y'.s.st = 3 /\ y'.s.mo = fun _ => 0) \/ ((y'.s.st = 1 \/ y'.s.st = 2) /\ y'.s.mo = auN a /\ y.s.g = nmG g /\ isMB (M.md (nmG g)) (auN a) = true)))
section
variable {k i g a now : Int} {t : ByteArray} {M M' : Mo}
theorem Chg.refl {y : En} : Chg k g a M y y := .inl ⟨rfl, .inl rfl⟩
theorem Chg.st {y y' : En} (h : Chg k g a M y y') (h0 : y'.s.st = 0) : y.s.st = 0 := by
 rcases h with ⟨e, _⟩ | ⟨e, _⟩
 ·rw [<- e]; exact h0
 ·exact e
theorem Chg.ky {y y' : En} (h : Chg k g a M y y') : y'.s.ky = y.s.ky := by
 rcases h with ⟨e, _⟩ | ⟨_, _, e, _⟩
 ·rw [e]
 ·exact e
theorem chg_up {c : Ky} {f : En -> En} (h : ∀ y ∈ M.es, y.s.ky = c -> Chg k g a M y (f y)) : ∃ G : En -> En, M.up c f = { M with es := M.es.map G } /\ ∀ y ∈ M.es, Chg k g a M y (G y) :=
 ⟨fun y => if y.s.ky = c then f y else y, rfl, fun y hy => by
  simp only
  split
  ·rename_i e; exact h y hy e
  ·exact .refl⟩
theorem chg_no : ∃ G : En -> En, M = { M with es := M.es.map G } /\ ∀ y ∈ M.es, Chg k g a M y (G y) := ⟨id, by rw [List.map_id], fun _ _ => .refl⟩
theorem xdc_some {id : Nat -> Int} {g : ByteArray} {a : Nat -> Int} {st : Int} {rs : ByteArray} (h : xdcE M id g a st rs now = 0) : isMB (M.md g) a = true /\ ∃ y, M.fd (idI id, g) = some y /\ y.s.st = 0 := by
 unfold xdcE at h
 split at h
 ·exact absurd h (by decide)
 split at h
 ·exact absurd h (by decide)
 split at h
 ·exact absurd h (by decide)
 split at h
 ·exact absurd h (by decide)
 rename_i hm
 have hm : isMB (M.md g) a = true := by simpa using hm
 cases hf : M.fd (idI id, g) with
 | none => simp only [hf] at h; exact absurd h (by decide)
 | some y =>
  simp only [hf] at h
  refine ⟨hm, y, rfl, ?_⟩
  split at h
  ·exact absurd h (by decide)
  ·rename_i h0; simpa using h0
theorem xdc_chg {st : Int} {rs : ByteArray} (hd : DisK M.es) (hst : st = 1 \/ st = 2) : ∃ G : En -> En, xdcM M (idN i) (nmG g) (auN a) st rs now = { M with es := M.es.map G } /\ ∀ y ∈ M.es, Chg k g a M y (G y) := by
 unfold xdcM
 split
 ·rename_i h0
  obtain ⟨hm, u, hu, h0⟩ := xdc_some h0
  refine chg_up fun y hy hk => ?_
  have hyu : y = u := by
   have h1 := (fd_iff hd).2 ⟨hy, hk⟩
   have hu : fdL M.es (idI (idN i), nmG g) = some u := hu
   rw [h1] at hu
   cases hu; rfl
  subst hyu
  exact .inr ⟨h0, rfl, rfl, .inr ⟨hst, rfl, (Prod.mk.inj hk).2, hm⟩⟩
 ·exact chg_no
theorem stp_cases (hd : DisK M.es) (h : stpM k i g a now t M M') :
  (xsubE M (idN i) (nmG g) (txO t) now = 0 /\ ∃ L : List En, L.Perm (newE (idN i) (nmG g) (txO t) now :: M.es) /\ M' = { M with es := L }) \/
  (∃ G : En -> En, M' = { M with es := M.es.map G } /\ ∀ y ∈ M.es, Chg k g a M y (G y)) \/
  (k.tmod 8 = 6 /\ ∃ P : En -> Bool, M' = { M with es := M.es.filter P } /\ ∀ y ∈ M.es, P y = false -> y.s.st ≠ 0) \/
  (∃ gs, M' = { M with gs := gs }) := by
 unfold stpM at h
 split at h
 ·rcases h with ⟨h1, L, h2, h3⟩ | ⟨_, h⟩
  ·exact .inl ⟨h1, L, h2, h3⟩
  ·subst h; exact .inr (.inl chg_no)
 ·subst h
  refine .inr (.inl ?_)
  unfold xclM
  split
  ·exact chg_up fun y _ _ => .inl ⟨rfl, .inr (.inl rfl)⟩
  ·exact chg_no
 ·subst h
  refine .inr (.inl ?_)
  unfold xrlM
  split
  ·exact chg_up fun y _ _ => .inl ⟨rfl, .inr (.inr rfl)⟩
  ·exact chg_no
 ·subst h
  exact .inr (.inl (xdc_chg hd (.inl rfl)))
 ·subst h
  exact .inr (.inl (xdc_chg hd (.inr rfl)))
 ·rename_i hk
  subst h
  refine .inr (.inl ?_)
  unfold xlpM
  split
  ·refine ⟨_, rfl, fun y hy => ?_⟩
   unfold lpF
   split
   ·rename_i hl
    refine .inr ⟨?_, rfl, rfl, .inl ⟨by omega, rfl, rfl⟩⟩
    unfold lapP at hl
    simp at hl
    exact hl.1
   ·exact .refl
  ·exact chg_no
 ·rename_i hk
  subst h
  refine .inr (.inr (.inl ⟨by omega, _, rfl, fun y _ hp => ?_⟩))
  unfold kpP at hp
  simp at hp
  exact hp.1
 ·rcases h with ⟨_, X, _, _, h⟩ | ⟨_, h⟩
  ·exact .inr (.inr (.inr ⟨_, h⟩))
  ·subst h; exact .inr (.inl chg_no)
theorem ws_map {G : En -> En} : ∀ {es : List En}, (∀ y ∈ es, (G y).s.st = 0 -> y.s.st = 0) -> ((es.map G).filter fun x => x.s.st == 0).length <= (es.filter fun x => x.s.st == 0).length
 | [], _ => Nat.le_refl _
 | y :: es, h => by
  have ih := ws_map (es := es) fun z hz => h z (List.mem_cons_of_mem _ hz)
  rw [List.map_cons, List.filter_cons, List.filter_cons]
  have hy := h y List.mem_cons_self
  by_cases h1 : (G y).s.st = 0
  ·rw [if_pos (by simpa using h1), if_pos (by simpa using hy h1)]
   simp only [List.length_cons]; omega
  ·rw [if_neg (by simpa using h1)]
   split
   ·simp only [List.length_cons]; omega
   ·exact ih
theorem xsub_room {id : Nat -> Int} {g tx : ByteArray} (h0 : xsubE M id g tx now = 0) : ¬ M.room <= ((M.ls ⟨#[]⟩ 0).length : Nat) := by
 intro hr
 unfold xsubE at h0
 split at h0
 ·exact absurd h0 (by decide)
 split at h0
 ·rename_i hg; exact hg h0
 split at h0
 ·exact absurd h0 (by decide)
 split at h0
 ·exact absurd h0 (by decide)
 split at h0
 ·exact absurd h0 (by decide)
 exact absurd h0 (by decide)
theorem ws_ins {id : Nat -> Int} {g tx : ByteArray} {L : List En} (h0 : xsubE M id g tx now = 0) (hp : L.Perm (newE id g tx now :: M.es)) : (ws { M with es := L } : Int) <= M.room := by
 have h1 := xsub_room h0
 have h2 : ¬ M.room <= (ws M : Int) := h1
 have h3 : ws { M with es := L } = ws M + 1 := by
  rw [ws_eq, ws_eq]
  show (L.filter _).length = _
  rw [(hp.filter _).length_eq, List.filter_cons, if_pos (by rfl)]
  rfl
 omega
theorem ws_step (hd : DisK M.es) (h : stpM k i g a now t M M') (hw : (ws M : Int) <= M.room) : M'.room = M.room /\ M'.days = M.days /\ (ws M' : Int) <= M.room := by
 rcases stp_cases hd h with ⟨h0, L, hp, rfl⟩ | ⟨G, rfl, hG⟩ | ⟨_, P, rfl, hP⟩ | ⟨gs, rfl⟩
 ·exact ⟨rfl, rfl, ws_ins h0 hp⟩
 ·refine ⟨rfl, rfl, ?_⟩
  have : ws { M with es := M.es.map G } <= ws M := by
   rw [ws_eq, ws_eq]
   exact ws_map fun y hy => (hG y hy).st
  omega
 ·refine ⟨rfl, rfl, ?_⟩
  have : ws { M with es := M.es.filter P } <= ws M := by
   rw [ws_eq, ws_eq]
   exact (List.filter_sublist.filter _).length_le
  omega
 ·exact ⟨rfl, rfl, hw⟩
def HoI (M : Mo) : Prop := ∀ y ∈ M.es, ∃ b, y.ho = auN b
theorem auN_0 : auN 0 = fun _ => 0 := by
 funext j
 unfold auN
 split <;> rfl
theorem ho_step (hd : DisK M.es) (h : stpM k i g a now t M M') (hI : HoI M) : HoI M' := by
 rcases stp_cases hd h with ⟨h0, L, hp, rfl⟩ | ⟨G, rfl, hG⟩ | ⟨_, P, rfl, hP⟩ | ⟨gs, rfl⟩
 ·intro y hy
  rcases List.mem_cons.1 (hp.subset hy) with rfl | hy
  ·exact ⟨0, auN_0.symm⟩
  ·exact hI y hy
 ·intro z hz
  obtain ⟨y, hy, rfl⟩ := List.mem_map.1 hz
  rcases hG y hy with ⟨_, e | e | e⟩ | ⟨_, e, _⟩
  ·rw [e]; exact hI y hy
  ·exact ⟨a, e⟩
  ·exact ⟨0, by rw [e, auN_0]⟩
  ·exact ⟨0, by rw [e, auN_0]⟩
 ·intro y hy
  exact hI y (List.mem_filter.1 hy).1
 ·exact hI
end
def A1 (j : Int) : Nat -> Int := fun n => if n = 1 then j else 0
theorem A1_ne {j : Int} {f : Nat -> Int} (h : f 1 ≠ j) : auI f ≠ auI (A1 j) := fun e => by
 have h1 := congrArg (fun l : List Int => l[1]?) e
 simp [auI, A1] at h1
 exact h h1
structure LeI (i : Int) (now : Int) (g : ByteArray) (M : Mo) (got : List Sb) : Prop where
 ho : ∀ y ∈ M.es, y.ho 1 <= i
 bk : ∀ s, got.getLast? = some s -> ∀ y ∈ M.es, y.s.g = g -> y.s.st = 0 -> ¬ cfM s y.s < 0 -> inE y now = true
 srt : M.es.Pairwise fun x y => cfM x.s y.s < 0
 dis : DisK M.es
theorem LeI.z {now : Int} {g : ByteArray} {M : Mo} (h : HoI M) (hs : M.es.Pairwise fun x y => cfM x.s y.s < 0) (hd : DisK M.es) : LeI 0 now g M [] := ⟨fun y hy => by
 obtain ⟨b, e⟩ := h y hy
 rw [e]
 show (if 1 = 15 then b.tmod 4 else 0) <= _
 rw [if_neg (by decide)]
 exact Int.le_refl _, fun s h => (by cases h), hs, hd⟩
theorem LeI.step {i now : Int} {g : ByteArray} {M : Mo} {got : List Sb} (h : LeI i now g M got) (h0 : xclE M g (A1 (i + 1)) now = 0) :
  (xclS M g (A1 (i + 1)) now).st = 0 /\ (xclS M g (A1 (i + 1)) now).g = g /\ (∀ s, got.getLast? = some s -> cfM s (xclS M g (A1 (i + 1)) now) < 0) /\ LeI (i + 1) now g (xclM M g (A1 (i + 1)) now) (got ++ [xclS M g (A1 (i + 1)) now]) /\
   fdL (xclM M g (A1 (i + 1)) now).es (xclS M g (A1 (i + 1)) now).ky = some ⟨xclS M g (A1 (i + 1)) now, true, A1 (i + 1), now⟩ := by
 have hb : ∀ y ∈ M.es, blk y (auI (A1 (i + 1))) now = inE y now := fun y hy => by
  unfold blk
  rw [show decide (auI y.ho = auI (A1 (i + 1))) = false from decide_eq_false (A1_ne (by have := h.ho y hy; omega))]
  simp
 cases hf : M.es.find? (clP g (auI (A1 (i + 1))) now) with
 | none =>
  unfold xclE at h0
  simp only [hf] at h0
  split at h0
  ·exact absurd h0 (by decide)
  ·split at h0
   ·exact absurd h0 (by decide)
   ·exact absurd h0 (by decide)
 | some e =>
  have em := List.mem_of_find?_eq_some hf
  have ep := List.find?_some hf
  have eS : xclS M g (A1 (i + 1)) now = e.s := by unfold xclS; rw [if_pos h0, hf]; rfl
  have eM : xclM M g (A1 (i + 1)) now = M.up e.s.ky (fun y => ⟨y.s, true, A1 (i + 1), now⟩) := by unfold xclM; rw [if_pos h0, eS]
  have ep2 : (e.s.g = g /\ e.s.st = 0) /\ inE e now = false := by
   unfold clP at ep
   rw [hb e em] at ep
   simpa using ep
  obtain ⟨_, l1, bs, hes, has⟩ := List.find?_eq_some_iff_append.1 hf
  rw [eS, eM]
  have hky : ∀ y ∈ M.es, y.s.ky = e.s.ky -> y = e := fun y hy hk => by
   have e1 := (fd_iff h.dis).2 ⟨hy, hk⟩
   have e2 := (fd_iff h.dis).2 ⟨em, rfl⟩
   rw [e1] at e2
   cases e2; rfl
  have hdis : DisK (M.up e.s.ky (fun y => ⟨y.s, true, A1 (i + 1), now⟩)).es := by
   refine List.pairwise_map.2 (h.dis.imp fun {x y} hxy => ?_)
   have e1 : ∀ z : En, (if z.s.ky = e.s.ky then (⟨z.s, true, A1 (i + 1), now⟩ : En) else z).s = z.s := fun z => by split <;> rfl
   rw [e1, e1]; exact hxy
  refine ⟨ep2.1.2, ep2.1.1, fun s hs => Classical.byContradiction fun hn => ?_, ⟨fun z hz => ?_, fun s hs z hz hg hst hc => ?_, ?_, hdis⟩, ?_⟩
  ·have := h.bk s hs e em ep2.1.1 ep2.1.2 hn
   rw [this] at ep2
   exact absurd ep2.2 (by decide)
  ·obtain ⟨y, hy, rfl⟩ := List.mem_map.1 hz
   split
   ·show (if 1 = 1 then i + 1 else 0) <= _
    rw [if_pos rfl]; exact Int.le_refl _
   ·have := h.ho y hy
    omega
  ·rw [List.getLast?_append] at hs
   simp at hs
   subst hs
   obtain ⟨y, hy, rfl⟩ := List.mem_map.1 hz
   split
   ·unfold inE
    simp
   ·rename_i hne
    have e1 : (if y.s.ky = e.s.ky then (⟨y.s, true, A1 (i + 1), now⟩ : En) else y) = y := if_neg hne
    rw [e1] at hg hst hc
    have hy2 := hy
    rw [hes] at hy2
    rcases List.mem_append.1 hy2 with hm | hm
    ·have := has y hm
     unfold clP at this
     rw [hb y hy] at this
     simp only [hg, hst, decide_true, Bool.true_and, Bool.not_not, beq_self_eq_true] at this
     exact this
    ·rcases List.mem_cons.1 hm with rfl | hm
     ·exact absurd rfl hne
     ·have hs2 := h.srt
      rw [hes, List.pairwise_append] at hs2
      exact absurd ((List.pairwise_cons.1 hs2.2.1).1 y hm) hc
  ·refine List.pairwise_map.2 (h.srt.imp fun {x y} hxy => ?_)
   have e1 : ∀ z : En, (if z.s.ky = e.s.ky then (⟨z.s, true, A1 (i + 1), now⟩ : En) else z).s = z.s := fun z => by split <;> rfl
   rw [e1, e1]; exact hxy
  ·exact (fd_iff hdis).2 ⟨List.mem_map.2 ⟨e, em, if_pos rfl⟩, rfl⟩
end Go.Proofs.YtfacflbmlfbeeaaGreatDoor
namespace Go.Proofs.YtfacflbmlfbeeaaGreatDoor
open Go.RowKit Go.Sort Go.Maps
def gpl (y : Gx) : ByteArray × List (Nat -> Int) := (y.g, y.x.l)
structure MoE (M N : Mo) : Prop where
 room : N.room = M.room
 days : N.days = M.days
 es : N.es = M.es
 gs : N.gs.map gpl = M.gs.map gpl
theorem MoE.refl (M : Mo) : MoE M M := ⟨rfl, rfl, rfl, rfl⟩
theorem gfind {g : ByteArray} : ∀ {l m : List Gx}, l.map gpl = m.map gpl -> ((((l.find? fun y => decide (y.g = g)).map (·.x)).getD mxz)).l = ((((m.find? fun y => decide (y.g = g)).map (·.x)).getD mxz)).l
 | [], [], _ => rfl
 | [], _ :: _, h => by simp at h
 | _ :: _, [], h => by simp at h
 | y :: l, z :: m, h => by
  simp only [List.map_cons, List.cons.injEq] at h
  obtain ⟨h1, h2⟩ := h
  unfold gpl at h1
  obtain ⟨e1, e2⟩ := Prod.mk.inj h1
  rw [List.find?_cons, List.find?_cons, e1]
  cases hd : decide (z.g = g) with
  | true => exact e2
  | false => exact gfind h2
section
variable {M N M' N' : Mo}
theorem MoE.md (h : MoE M N) (g : ByteArray) : (N.md g).l = (M.md g).l := gfind h.gs
theorem MoE.mb (h : MoE M N) (g : ByteArray) (a : Nat -> Int) : isMB (N.md g) a = isMB (M.md g) a := by unfold isMB; rw [h.md]
theorem MoE.fd (h : MoE M N) (k : Ky) : N.fd k = M.fd k := by unfold Mo.fd; rw [h.es]
theorem MoE.ls (h : MoE M N) (g : ByteArray) (st : Int) : N.ls g st = M.ls g st := by unfold Mo.ls; rw [h.es]
theorem MoE.sub (h : MoE M N) (id : Nat -> Int) (g tx : ByteArray) (now : Int) : xsubE N id g tx now = xsubE M id g tx now := by
 unfold xsubE
 rw [h.md, h.fd, h.ls, h.room]
theorem MoE.cl (h : MoE M N) (g : ByteArray) (a : Nat -> Int) (now : Int) : xclE N g a now = xclE M g a now /\ xclS N g a now = xclS M g a now := by
 have e1 : xclE N g a now = xclE M g a now := by
  unfold xclE
  rw [h.mb, h.es]
 refine ⟨e1, ?_⟩
 unfold xclS
 rw [e1, h.es]
theorem MoE.rl (h : MoE M N) (k : Ky) (a : Nat -> Int) (now : Int) : xrlE N k a now = xrlE M k a now := by
 unfold xrlE
 rw [h.fd]
theorem MoE.dc (h : MoE M N) (id : Nat -> Int) (g : ByteArray) (a : Nat -> Int) (st : Int) (rs : ByteArray) (now : Int) : xdcE N id g a st rs now = xdcE M id g a st rs now := by
 unfold xdcE
 rw [h.fd, h.mb]
theorem MoE.up (h : MoE M N) (k : Ky) (f : En -> En) : MoE (M.up k f) (N.up k f) := ⟨h.room, h.days, by unfold Mo.up; rw [h.es], h.gs⟩
end
theorem gset_pl {g : ByteArray} {X Y : MX} (hX : Y.l = X.l) : ∀ {l m : List Gx}, m.map gpl = l.map gpl -> (gset m g Y).map gpl = (gset l g X).map gpl
 | [], [], _ => by unfold gset gpl; simp [hX]
 | [], _ :: _, h => by simp at h
 | _ :: _, [], h => by simp at h
 | y :: l, z :: m, h => by
  simp only [List.map_cons, List.cons.injEq] at h
  obtain ⟨h1, h2⟩ := h
  have h1' := h1
  unfold gpl at h1'
  obtain ⟨e1, e2⟩ := Prod.mk.inj h1'
  unfold gset
  rw [e1]
  split
  ·simp only [List.map_cons, h2]
   unfold gpl; simp [hX]
  ·simp only [List.map_cons, h1, gset_pl hX h2]
theorem sort_uniq {α : Type} {cf : α -> α -> Int} (hc : ∀ a b, cf a b = - cf b a) {l m : List α} (hp : l.Perm m) (h1 : l.Pairwise fun x y => cf x y < 0) (h2 : m.Pairwise fun x y => cf x y < 0) : l = m :=
 perm_uniq39 (R := fun x y => cf x y < 0) hp h1 h2 fun a _ b _ h3 h4 => by
  have := hc a b
  omega
theorem MoE.step {k i g a now : Int} {t : ByteArray} {M N M' N' : Mo} (h : MoE M N) (h1 : stpM k i g a now t M M') (h2 : stpM k i g a now t N N') (s1 : M'.es.Pairwise fun x y => cfM x.s y.s < 0) (s2 : N'.es.Pairwise fun x y => cfM x.s y.s < 0) : MoE M' N' := by
 unfold stpM at h1 h2
 generalize (k.tmod 8).toNat = j at h1 h2
 match j, h1, h2 with
 | 0, h1, h2 =>
  simp only at h1 h2
  rw [h.sub] at h2
  rcases h1 with ⟨a1, L, b1, rfl⟩ | ⟨a1, rfl⟩ <;> rcases h2 with ⟨a2, L2, b2, rfl⟩ | ⟨a2, rfl⟩
  ·refine ⟨h.room, h.days, ?_, h.gs⟩
   rw [h.es] at b2
   exact sort_uniq (cf := fun x y : En => cfM x.s y.s) (fun a b => cfM_ord.anti a.s b.s) (b2.trans b1.symm) s2 s1
  ·exact absurd a1 a2
  ·exact absurd a2 a1
  ·exact h
 | 1, h1, h2 =>
  simp only at h1 h2
  subst h1 h2
  unfold xclM
  rw [(h.cl _ _ _).1, (h.cl _ _ _).2]
  split
  ·exact h.up _ _
  ·exact h
 | 2, h1, h2 =>
  simp only at h1 h2
  subst h1 h2
  unfold xrlM
  rw [h.rl]
  split
  ·exact h.up _ _
  ·exact h
 | 3, h1, h2 =>
  simp only at h1 h2
  subst h1 h2
  unfold xdcM
  rw [h.dc]
  split
  ·exact h.up _ _
  ·exact h
 | 4, h1, h2 =>
  simp only at h1 h2
  subst h1 h2
  unfold xdcM
  rw [h.dc]
  split
  ·exact h.up _ _
  ·exact h
 | 5, h1, h2 =>
  simp only at h1 h2
  subst h1 h2
  unfold xlpM
  split
  ·exact ⟨h.room, h.days, by rw [h.es, h.days], h.gs⟩
  ·exact h
 | 6, h1, h2 =>
  simp only at h1 h2
  subst h1 h2
  exact ⟨h.room, h.days, by rw [h.es], h.gs⟩
 | j + 7, h1, h2 =>
  simp only at h1 h2
  rcases h1 with ⟨a1, X, b1, c1, rfl⟩ | ⟨a1, rfl⟩ <;> rcases h2 with ⟨a2, Y, b2, c2, rfl⟩ | ⟨a2, rfl⟩
  ·exact ⟨h.room, h.days, h.es, gset_pl (sort_uniq (cf := cfA) cfA_ord.anti (b2.trans b1.symm) c2 c1) h.gs⟩
  ·exact absurd a1 a2
  ·exact absurd a2 a1
  ·exact h
def NmD (M : Mo) : Prop := M.gs.Pairwise fun x y => x.g ≠ y.g
theorem gset_nm {g : ByteArray} {X : MX} : ∀ {l : List Gx}, (l.Pairwise fun x y => x.g ≠ y.g) -> (gset l g X).Pairwise fun x y => x.g ≠ y.g
 | [], _ => by unfold gset; simp
 | y :: l, h => by
  have h1 := List.pairwise_cons.1 h
  unfold gset
  split
  ·rename_i e
   exact List.pairwise_cons.2 ⟨fun z hz => by show g ≠ z.g; rw [<- e]; exact h1.1 z hz, h1.2⟩
  ·rename_i e
   refine List.pairwise_cons.2 ⟨fun z hz => ?_, gset_nm h1.2⟩
   rcases gset_mem hz with rfl | hz
   ·exact e
   ·exact h1.1 z hz
theorem NmD.step {k i g a now : Int} {t : ByteArray} {M M' : Mo} (h : NmD M) (h1 : stpM k i g a now t M M') : NmD M' := by
 have hup : ∀ (k : Ky) (f : En -> En), NmD (M.up k f) := fun _ _ => h
 unfold stpM at h1
 split at h1
 ·rcases h1 with ⟨_, L, _, rfl⟩ | ⟨_, rfl⟩ <;> exact h
 ·subst h1; unfold xclM; split <;> exact h
 ·subst h1; unfold xrlM; split <;> exact h
 ·subst h1; unfold xdcM; split <;> exact h
 ·subst h1; unfold xdcM; split <;> exact h
 ·subst h1; unfold xlpM; split <;> exact h
 ·subst h1; exact h
 ·rcases h1 with ⟨_, X, _, _, rfl⟩ | ⟨_, rfl⟩
  ·exact gset_nm h
  ·exact h
def nmL (M : Mo) : List ByteArray := M.gs.map (·.g)
theorem gset_nmL (g : ByteArray) (X : MX) : ∀ l : List Gx, (gset l g X).length = l.length -> (gset l g X).map (·.g) = l.map (·.g)
 | [], h => by unfold gset at h; simp at h
 | y :: l, h => by
  unfold gset at h ⊢
  split
  ·rename_i e; simp [e]
  ·rename_i e
   rw [if_neg e] at h
   simp only [List.length_cons, Nat.add_right_cancel_iff] at h
   simp only [List.map_cons, gset_nmL g X l h]
theorem nm_step {k i g a now : Int} {t : ByteArray} {M M' : Mo} (h1 : stpM k i g a now t M M') (hl : M'.gs.length = M.gs.length) : nmL M' = nmL M := by
 unfold stpM at h1
 split at h1
 ·rcases h1 with ⟨_, L, _, rfl⟩ | ⟨_, rfl⟩ <;> rfl
 ·subst h1; unfold xclM; split <;> rfl
 ·subst h1; unfold xrlM; split <;> rfl
 ·subst h1; unfold xdcM; split <;> rfl
 ·subst h1; unfold xdcM; split <;> rfl
 ·subst h1; unfold xlpM; split <;> rfl
 ·subst h1; rfl
 ·rcases h1 with ⟨_, X, _, _, rfl⟩ | ⟨_, rfl⟩
  ·exact gset_nmL _ _ _ hl
  ·rfl
def QE (q r : Qu) : Prop := (∀ k, aget q.es k = aget r.es k) /\ ∀ g, (aget q.ms g).isSome = (aget r.ms g).isSome /\ (q.md g).l = (r.md g).l
def MsN (q : Qu) : Prop := ∀ g x, aget q.ms g = some x -> x.l ≠ []
theorem MsN.is {q : Qu} (h : MsN q) (g : ByteArray) : (aget q.ms g).isSome = !decide ((q.md g).l = []) := by
 unfold Qu.md
 cases hg : aget q.ms g with
 | none => rfl
 | some x => simp [h g x hg]
theorem es_eq {M N : Mo} (hM : DisK M.es) (hN : DisK N.es) (sM : M.es.Pairwise fun x y => cfM x.s y.s < 0) (sN : N.es.Pairwise fun x y => cfM x.s y.s < 0) (h : ∀ k, fdL M.es k = fdL N.es k) : M.es = N.es := by
 have hp := ag_perm (pr_dis hM) (pr_dis hN) fun k => by rw [pr_get hM, pr_get hN, h]
 have hp2 := hp.map (·.2)
 unfold prL at hp2
 rw [List.map_map, List.map_map] at hp2
 have e : ∀ l : List En, l.map ((fun p : Ky × En => p.2) ∘ fun x => (x.s.ky, x)) = l := fun l => (List.map_id l)
 rw [e, e] at hp2
 exact sort_uniq (cf := fun x y : En => cfM x.s y.s) (fun a b => cfM_ord.anti a.s b.s) hp2 sM sN
theorem md_at {M : Mo} (h : NmD M) {i : Nat} {y : Gx} (hy : M.gs[i]? = some y) : M.md y.g = y.x := by
 unfold Mo.md
 rw [find_at39 M.gs i y hy (by simp) fun j z hj hz => decide_eq_false (pw_get h hz hy hj)]
 rfl
theorem qe_iff {n : Nat} {q r : Qu} {M N : Mo} (hq : Rq n q M) (hr : Rq n r N) (mq : MsN q) (mr : MsN r) (hM : NmD M) (hN : NmD N) (hnm : nmL M = nmL N) :
  QE q r ↔ (M.es = N.es /\ ∀ (i : Nat) (y z : Gx), M.gs[i]? = some y -> N.gs[i]? = some z -> y.x.l = z.x.l) := by
 constructor
 ·rintro ⟨h1, h2⟩
  refine ⟨es_eq hq.dis hr.dis hq.srt hr.srt fun k => by rw [hq.fd, hr.fd, h1], fun i y z hy hz => ?_⟩
  have e1 : y.g = z.g := by
   have a1 := congrArg (fun l : List ByteArray => l[i]?) hnm
   unfold nmL at a1
   simp only [List.getElem?_map, hy, hz, Option.map_some, Option.some.injEq] at a1
   exact a1
  have e2 := (h2 y.g).2
  rw [hq.ms, hr.ms, md_at hM hy, e1, md_at hN hz] at e2
  exact e2
 ·rintro ⟨h1, h2⟩
  have hmd : ∀ g, (M.md g).l = (N.md g).l := fun g => by
   have hmap : M.gs.map gpl = N.gs.map gpl := by
    apply List.ext_getElem?
    intro i
    rw [List.getElem?_map, List.getElem?_map]
    have a1 := congrArg (fun l : List ByteArray => l[i]?) hnm
    unfold nmL at a1
    simp only [List.getElem?_map] at a1
    cases hy : M.gs[i]? with
    | none => rw [hy] at a1; cases hz : N.gs[i]? with
     | none => rfl
     | some z => rw [hz] at a1; simp at a1
    | some y => rw [hy] at a1; cases hz : N.gs[i]? with
     | none => rw [hz] at a1; simp at a1
     | some z =>
      rw [hz] at a1
      simp only [Option.map_some, Option.some.injEq] at a1
      simp only [Option.map_some, gpl, a1, h2 i y z hy hz]
   exact gfind hmap
  refine ⟨fun k => by rw [<- hq.fd, <- hr.fd, h1], fun g => ?_⟩
  have e : (q.md g).l = (r.md g).l := by rw [hq.ms, hr.ms, hmd]
  exact ⟨by rw [mq.is, mr.is, e], e⟩
end Go.Proofs.YtfacflbmlfbeeaaGreatDoor
namespace Go.Proofs.YtfacflbmlfbeeaaGreatDoor
open Go.RowKit Go.Sort Go.Maps
structure St (r d : Int) (M : Mo) : Prop where
 room : M.room = r
 days : M.days = d
 ws : (ws M : Int) <= M.room
 ho : HoI M
theorem St.step {r d k i g a now : Int} {t : ByteArray} {M M' : Mo} (h : St r d M) (hd : DisK M.es) (hs : stpM k i g a now t M M') : St r d M' := by
 obtain ⟨h1, h2, h3⟩ := ws_step hd hs h.ws
 exact ⟨h1.trans h.room, h2.trans h.days, by rw [h1]; exact h3, ho_step hd hs h.ho⟩
section
variable {w0 w : World} {b mb eb m n : Nat} {q : Qu} {M : Mo} {P : Pl}
theorem SW.list (h : SW w0 w b mb eb m q M P) (r : Rq n q M) (hn : n <= 10000) (hG : GW w0) (g : ByteArray) (st : Int) :
  Calls Tryz.prog 32 #[.pointer (some ⟨b, 0, none⟩), .string g, .int .i64 st] w fun e w' => (∃ (p : Option Addr) (c : Nat), e = .returned (.slice p (M.ls g st).length c) /\ w'.ownsRow w.heap.size 48 54 (.slice p (M.ls g st).length c) (M.ls g st).length ((M.ls g st).flatMap sbC)) /\ K0 w w' :=
 (list_any h.mq r.qo (by have := r.ql; omega) g st (h.gw hG)).mono fun e w' ⟨⟨p, c, l, he, hp, hs, ho⟩, k⟩ => by
  have e1 : l = M.ls g st := r.uniq hp hs
  subst e1
  exact ⟨⟨p, c, he, ho⟩, k⟩
theorem SW.count (h : SW w0 w b mb eb m q M P) (r : Rq n q M) (hn : n <= 10000) (hG : GW w0) (g : ByteArray) (st : Int) :
  Calls Tryz.prog 15 #[.pointer (some ⟨b, 0, none⟩), .string g, .int .i64 st] w fun e w' => e = .returned (.int .i64 ((M.ls g st).length : Nat)) /\ K0 w w' :=
 (count_any h.mq r.qo (by have := r.ql; omega) g st (h.gw hG)).mono fun e w' ⟨he, k⟩ => by
  have e1 : (selE (lsP g st) q.es).length = (M.ls g st).length := (r.sel (lsP g st)).length_eq
  exact ⟨by rw [he, e1], k⟩
theorem SW.get (h : SW w0 w b mb eb m q M P) (r : Rq n q M) (id : Nat -> Int) (hid : BY id) (g : ByteArray) (hg : g.size <= 1073741824) :
  Calls Tryz.prog 21 #[.pointer (some ⟨b, 0, none⟩), .agg (arrI .u8 id 32 0).toArray, .string g] w fun e w' => e = .returned (.tuple #[sbV ((fdL M.es (idI id, g)).getD enz).s, .bool (fdL M.es (idI id, g)).isSome]) /\ K0 w w' :=
 (get_any h.mq id hid g hg).mono fun e w' ⟨he, k⟩ => by
  rw [r.fd]
  exact ⟨he, k⟩
theorem SW.hld (h : SW w0 w b mb eb m q M P) (r : Rq n q M) (id : Nat -> Int) (hid : BY id) (g : ByteArray) (hg : g.size <= 1073741824) (now : Int) {y : En} (hy : fdL M.es (idI id, g) = some y) :
  Calls Tryz.prog 41 #[.pointer (some ⟨b, 0, none⟩), .agg (arrI .u8 id 32 0).toArray, .string g, .int .i64 now] w fun e w' => e = .returned (.tuple #[.agg (arrI .u8 (if (minB now && inE y now) = true then y.ho else fun _ => 0) 16 0).toArray, .bool (minB now && inE y now)]) /\ K0 w w' :=
 (holder_any h.mq r.qo id hid g hg now).mono fun e w' ⟨he, k⟩ => by
  have e1 : q.en (idI id, g) = y := en_some (by rw [<- r.fd]; exact hy)
  unfold hldA hldB at he
  rw [e1] at he
  exact ⟨he, k⟩
theorem SW.mods (h : SW w0 w b mb eb m q M P) (r : Rq n q M) (g : ByteArray) (hg : g.size <= 1073741824) :
  Calls Tryz.prog 16 #[.pointer (some ⟨b, 0, none⟩), .string g] w fun e w' => (∃ (p : Option Addr) (c : Nat), e = .returned (.slice p (M.md g).l.length c) /\ w'.ownsRow w.heap.size 45 16 (.slice p (M.md g).l.length c) (M.md g).l.length ((M.md g).l.flatMap auC)) /\ K0 w w' :=
 (mods_any h.mq r.qo g hg).mono fun e w' h1 => by
  rw [r.ms] at h1
  exact h1
end
end Go.Proofs.YtfacflbmlfbeeaaGreatDoor
namespace Go.Proofs.YtfacflbmlfbeeaaGreatDoor
open Go.RowKit
def i64C (x : Int) : List Value := [.int .i64 x]
theorem i64C_length (x : Int) : (i64C x).length = 1 := rfl
def Apart (a b : Value) : Prop := ∀ k, a.ownBlock = some k -> b.ownBlock = some k -> False
theorem none_own {n c k : Nat} (h : (Value.slice none n c).ownBlock = some k) : False := by simp [Value.ownBlock] at h
set_option maxRecDepth 100000 in
set_option maxHeartbeats 2000000 in
theorem xall_any (s : ByteArray) (w : World) (hs : s.size <= 1000000) : Calls Tryz.prog 58 #[.string s] w fun e w' => (∃ (p q : Option Addr) (n c c' : Nat) (out : List Int) (a er : Int), e = .returned (.tuple #[.slice p out.length c, .slice q n c', .int .i64 a, .int .i64 er]) /\ RowA i64C 1 w' p out /\ out.length <= s.size /\ ((er = 0 /\ rnB s = true /\ out = rnL s) \/ (er ≠ 0 /\ rnB s = false))) /\ K0 w w' := by
 have hsp := (rn_spec s).1
 generalize rnB s = B at hsp ⊢
 generalize rnL s = LL at hsp ⊢
 refine vc_xall s w _ ?_
 refine ⟨fun vs w' => ∃ (i : Nat) (p q : Option Addr) (n c c' : Nat) (xs : List Value) (out l : List Int), vs = [.int .i64 (i : Int), .slice q n c', .slice p out.length c] /\ i <= s.size /\ n <= i /\ out.length <= i /\ LL = out ++ l /\ RN s i l B /\ w'.ownsRow w.heap.size 3 1 (.slice q n c') n xs /\ w'.ownsRow w.heap.size 3 1 (.slice p out.length c) out.length (out.flatMap i64C) /\ Apart (.slice q n c') (.slice p out.length c) /\ K0 w w',
  fun vs _ => (match vs with | .int _ a :: _ => s.size - a.toNat | _ => 0), ⟨0, none, none, 0, 0, 0, [], [], LL, rfl, by omega, by omega, Nat.le_refl _, rfl, hsp, World.ownsRow_nil _ _ _ _, World.ownsRow_nil _ _ _ _, fun k h _ => none_own h, .refl _ _⟩, ?_⟩
 rintro y q n c' p n1 c w1 ⟨i, p', q', n', cc, cc', xs, out, l, hv, hi, hni, hol, hLL, hR, ho1, ho2, hap, k1⟩
 simp only [List.cons.injEq, Value.int.injEq, Value.slice.injEq, true_and, and_true] at hv
 obtain ⟨rfl, ⟨rfl, rfl, rfl⟩, rfl, rfl, rfl⟩ := hv
 rw [Int.toNat_natCast]
 refine bsp_intro (fun hlt => ?_) (fun hge => ?_)
 rotate_left
 ·have hge : s.size <= i := by simp at hge; omega
  obtain ⟨e1, e2⟩ := RN.det hR (.done hge)
  exact ⟨⟨p, q, n, c, c', out, 0, 0, rfl, RowA.own ho2 i64C_length (by decide), by omega, .inl ⟨rfl, e2, by rw [hLL, e1, List.append_nil]⟩⟩, k1⟩
 have hlt : i < s.size := by simp at hlt; omega
 refine ⟨⟨by omega, by omega⟩, ⟨(xfirst_any (s.extract i s.size) w1 (by rw [ext_size]; omega) (by rw [ext_size]; omega)).mono fun e w2 ⟨hd, k2⟩ => ?_⟩⟩
 have k02 := k1.trans k2
 have ho2' := owns_kp ho2 k2 (fun _ _ h => h)
 have ho1' := owns_kp ho1 k2 (fun _ _ h => h)
 cases hR with
 | done h => omega
 | bad h hu =>
  rw [hu] at hd
  obtain ⟨er, he0, he⟩ := hd
  refine ⟨_, _, _, he, .of_k0 k2, bsp_intro (fun _ => ⟨⟨p, q, n, c, c', out, _, er, rfl, RowA.own ho2' i64C_length (by decide), by omega, .inr ⟨he0, rfl⟩⟩, k02⟩) (fun h => by exfalso; simp at h; exact he0 h)⟩
 | @step _ r m l' _ h hu hr =>
  rw [hu] at hd
  have hn := u8R_pos hu
  rw [ext_size] at hn
  refine ⟨_, _, _, hd, .of_k0 k2, bsp_intro (fun h => by simp at h) (fun _ n2 W hW => ?_)⟩
  have kW : K0 w2 W := hW.kk rfl
  have hoW := owns_kp ho2' kW (fun _ _ h => h)
  have hqW := owns_kp ho1' kW (fun _ _ h => h)
  refine ⟨w.heap.size, _, hoW, by omega, by omega, Nat.le_trans k02.size kW.size, fun p4 c4 w4 ho4 hg4 ha4 => ?_⟩
  have kg4 := kp_grown hg4
  have k04 : K0 w w4 := (k02.trans kW).fresh kg4 (fun j hj e => by have := own_ge hoW e; omega)
  have hq4 := owns_kp hqW kg4 (fun k hk e => hap k hk e)
  have hap4 : Apart (.slice q n c') (.slice p4 (out.length + 1) c4) := fun k hk e => by
   rcases ha4.own with h | h
   ·rw [h] at e; exact hap k hk e
   ·rw [h] at e
    cases e
    exact Nat.lt_irrefl _ (own_lt hqW hk)
  refine ⟨.of_kp kg4 (fun z hz => by cases hz), fun n3 W5 hW5 => ?_⟩
  have k5 : K0 w4 W5 := hW5.kk rfl
  have hq5 := owns_kp hq4 k5 (fun _ _ h => h)
  have ho5 := owns_kp ho4 k5 (fun _ _ h => h)
  refine ⟨w.heap.size, _, hq5, by omega, by omega, Nat.le_trans k04.size k5.size, fun p6 c6 w6 ho6 hg6 ha6 => ?_⟩
  have kg6 := kp_grown hg6
  have k06 : K0 w w6 := (k04.trans k5).fresh kg6 (fun j hj e => by have := own_ge hq5 e; omega)
  have hp6 := owns_kp ho5 kg6 (fun k hk e => hap4 k e hk)
  rw [wr64 (by omega) (by omega)]
  have e1 : (out ++ [r]).length = out.length + 1 := by simp
  have e2 : (out ++ [r]).flatMap i64C = out.flatMap i64C ++ [.int .i64 r] := by rw [List.flatMap_append]; rfl
  refine ⟨.of_kp kg6 (fun z hz => by cases hz), ⟨i + m, p4, p6, n + 1, c4, c6, _, out ++ [r], l', by rw [<- Int.natCast_add, e1], by omega, by omega, by omega, by rw [hLL, List.append_assoc]; rfl, hr, ho6, by rw [e1, e2]; exact hp6, fun k hk e => ?_, k06⟩, by simp only [<- Int.natCast_add, Int.toNat_natCast]; omega⟩
  rw [e1] at e
  rcases ha6.own with h | h
  ·rw [h] at hk; exact hap4 k hk e
  ·rw [h] at hk
   cases hk
   exact Nat.lt_irrefl _ (own_lt ho5 e)
end Go.Proofs.YtfacflbmlfbeeaaGreatDoor
namespace Go.Proofs.YtfacflbmlfbeeaaGreatDoor
open Go.RowKit Go.Sort Go.Maps
theorem prt_no {s : ByteArray} {out : List Int} {er : Int} (h : (er = 0 /\ rnB s = true /\ out = rnL s) \/ (er ≠ 0 /\ rnB s = false)) {r : Int} (hr : r ∈ out) (hc : ctlB r = true) : prtB s = false := by
 unfold prtB
 rcases h with ⟨_, h1, h2⟩ | ⟨_, h1⟩
 ·subst h2
  rw [h1, List.any_eq_true.2 ⟨r, hr, hc⟩]; rfl
 ·rw [h1]; rfl
theorem prt_yes {s : ByteArray} {out : List Int} (h1 : rnB s = true) (h2 : out = rnL s) (hc : ∀ r ∈ out, ctlB r = false) : prtB s = true := by
 unfold prtB
 subst h2
 have : (rnL s).any ctlB = false := by
  rw [List.any_eq_false]
  intro r hr h
  rw [hc r hr] at h; cases h
 rw [h1, this]; rfl
set_option maxHeartbeats 4000000 in
set_option maxRecDepth 100000 in
theorem xdecide_any {w : World} {B m : Nat} {M : Mo} {P : Pl} (h : MoR w B m M P) (ho : M.OK) (f : Nat -> Int) (hf : BY f) (g : ByteArray) (a : Nat -> Int) (ha : BY a) (st : Int) (rs : ByteArray) (hrs : rs.size <= 1000000) (now : Int) :
  Calls Tryz.prog 27 #[.pointer (some ⟨m, 0, none⟩), .agg (arrI .u8 f 32 0).toArray, .string g, .agg (arrI .u8 a 16 0).toArray, .int .i64 st, .string rs, .int .i64 now] w fun e w' => e = .returned (.int .i64 (xdcE M f g a st rs now)) /\ MoR w' B m (xdcM M f g a st rs now) P /\ Kp (MF w B) w w' := by
 refine vc_xdecide m f g a st rs now w _ (fun n n1 W hW => ?_)
 have kW : K0 w W := hW.kk rfl
 have hel := ho.el
 have hgl := ho.gl
 have hfin : ∀ (E : Int), xdcE M f g a st rs now = E -> E ≠ 0 -> ∀ w', K0 w w' -> Ending.returned (.int .i64 E) = Ending.returned (.int .i64 (xdcE M f g a st rs now)) /\ MoR w' B m (xdcM M f g a st rs now) P /\ Kp (MF w B) w w' := fun E hE h0 w' k => by
  have hM : xdcM M f g a st rs now = M := by unfold xdcM; rw [hE, if_neg h0]
  rw [hE, hM]
  exact ⟨rfl, h.k0 k, .mf0 k⟩
 refine ⟨(xmin_any now W).mono fun e w1 ⟨he, k1⟩ => ⟨_, he, .of_k0 k1, bsp_intro (fun h1 => ?_) (fun h1 => ?_)⟩⟩
 ·exact hfin 2 (by unfold xdcE; rw [if_pos (minB_ft h1)]) (by decide) _ (kW.trans k1)
 have h1 := minB_ff h1
 have hn1 : ¬ minB now = false := by rw [h1]; decide
 have k01 := kW.trans k1
 have hE0 : (¬ (st = 2 /\ 200 < rs.size)) -> (¬ (st = 2 /\ prtB rs = false)) -> xdcE M f g a st rs now = if isMB (M.md g) a = false then 20 else match M.fd (idI f, g) with
  | none => 8
  | some y => if y.s.st ≠ 0 then 10 else if blk y (auI a) now = true then 25 else 0 := fun e1 e2 => by
  unfold xdcE
  rw [if_neg hn1, if_neg e1, if_neg e2] <;> rfl
 refine bsp_intro (fun h2 => bsp_intro (fun h3 => ?a) (fun h3 => ?b)) (fun h2 => ?c)
 case a =>
  have h2 : st = 2 := by simpa using h2
  have h3 : 200 < rs.size := by simp at h3; omega
  exact hfin 5 (by unfold xdcE; rw [if_neg hn1, if_pos ⟨h2, h3⟩]) (by decide) _ k01
 case' b =>
  have h2 : st = 2 := by simpa using h2
  have h3 : ¬ 200 < rs.size := by simp at h3; omega
  have h6 : prtB rs = false -> xdcE M f g a st rs now = 6 := fun hp => by unfold xdcE; rw [if_neg hn1, if_neg (fun e => h3 e.2), if_pos ⟨h2, hp⟩]
  refine ⟨(xall_any rs w1 hrs).mono fun e w2 ⟨⟨p, q, n2, c, c', out, a2, er, he, hR, hol, hrn⟩, k2⟩ => ⟨_, _, _, _, _, _, _, _, he, .of_k0 k2, ?_⟩⟩
  refine ⟨fun vs w' => ∃ i : Nat, vs = [.int .i64 (i : Int)] /\ i <= out.length /\ (∀ j r, j < i -> out[j]? = some r -> ctlB r = false) /\ K0 w2 w', fun vs _ => (match vs with | .int _ a :: _ => out.length - a.toNat | _ => 0), ⟨0, rfl, by omega, fun j y h => by omega, .refl _ _⟩, ?_⟩
  rintro x wt ⟨i, hv, hi, hno, k3⟩ hL
  simp only [List.cons.injEq, Value.int.injEq, true_and, and_true] at hv
  subst hv
  have k23 := k2.trans k3
  have kt := k01.trans k23
  refine bsp_intro (fun hlt => ?_) (fun hge => bsp_intro (fun h4 => ?_) (fun h4 => ?_))
  ·have hlt : i < out.length := by simp at hlt; omega
   obtain ⟨y, b, o, hy, hp, hat⟩ := (hR.k0 k3).get hlt
   have hc : wt.cell? ⟨b, o + i, none⟩ = some (.int .i64 y) := by
    have := hat.cell (j := 0) rfl
    rw [Nat.mul_one] at this
    exact this
   rw [Int.toNat_natCast]
   refine nn_is hp ⟨⟨by omega, by omega⟩, y, hc, ⟨(xctl_any y wt).mono fun e w4 ⟨he, k4⟩ => ⟨_, he, .of_k0 k4, bsp_intro (fun h5 => ?_) (fun h5 => ?_)⟩⟩⟩
   ·exact hfin 6 (h6 (prt_no hrn (List.mem_of_getElem? hy) h5)) (by decide) _ (kt.trans k4)
   ·rw [inc64 (by omega)]
    refine ⟨⟨i + 1, rfl, hlt, fun j z hj hz => ?_, k3.trans k4⟩, by simp only [Int.toNat_natCast]; omega⟩
    by_cases e : j = i
    ·subst e; rw [hy] at hz; cases hz; exact h5
    ·exact hno j z (by omega) hz
  ·have h4 : er ≠ 0 := by simpa using h4
   refine hfin 6 (h6 ?_) (by decide) _ kt
   rcases hrn with ⟨h5, _⟩ | ⟨_, h5⟩
   ·exact absurd h5 h4
   ·unfold prtB; rw [h5]; rfl
  have h4 : er = 0 := by simpa using h4
  have hi2 : i = out.length := by simp at hge; omega
  subst hi2
  have hprt : prtB rs = true := by
   rcases hrn with ⟨_, h5, h6⟩ | ⟨h5, _⟩
   ·exact prt_yes h5 h6 fun r hr => by
     obtain ⟨j, hj⟩ := List.getElem?_of_mem hr
     exact hno j r (List.getElem?_eq_some_iff.1 hj).1 hj
   ·exact absurd h4 h5
  have hE0 := hE0 (fun e => h3 e.2) (fun e => by rw [hprt] at e; cases e.2)
 case' c =>
  have h2 : st ≠ 2 := by simpa using h2
  have hE0 := hE0 (fun e => h2 e.1) (fun e => h2 e.1)
  have kt := k01
  revert kt
  generalize w1 = wt
  intro kt
 all_goals
  refine ⟨(xis_any (h.k0 kt) (by omega) g a ha (ho.md g)).mono fun e w4 ⟨he, k4⟩ => ⟨_, he, .of_k0 k4, bsp_intro (fun h4 => ?_) (fun h4 => ?_)⟩⟩
  ·have h4 : isMB (M.md g) a = false := by simpa using h4
   exact hfin 20 (by rw [hE0, if_pos h4]) (by decide) _ (kt.trans k4)
  have h4 : isMB (M.md g) a = true := by simpa using h4
  rw [if_neg (by rw [h4]; decide)] at hE0
  have k04 := kt.trans k4
  refine ⟨(xfind39_any (h.k0 k04) (by omega) f hf (fun x hx => (ho.es x hx).1.s.id) g).mono fun e w5 ⟨hfd, k5⟩ => ?_⟩
  have k05 := k04.trans k5
  have h5 := h.k0 k05
  rcases hfd with ⟨he, hno⟩ | ⟨i, y, he, hy, hky⟩
  ·exact ⟨_, he, .of_k0 k5, bsp_intro (fun _ => hfin 8 (by rw [hE0]; unfold Mo.fd; rw [no_fd hno]) (by decide) _ k05) (fun h => absurd h (by decide))⟩
  have hi : i < M.es.length := (List.getElem?_eq_some_iff.1 hy).1
  obtain ⟨y2, b, o, hy2, hp, hat⟩ := h5.rowE.get hi
  rw [hy] at hy2
  cases hy2
  have hfd : M.fd (idI f, g) = some y := dis_fd ho.dis hy hky
  rw [hfd] at hE0
  simp only at hE0
  have hyo := (ho.es y (List.mem_of_getElem? hy)).1
  refine ⟨_, he, .of_k0 k5, bsp_intro (fun hneg => ?_) (fun _ => ⟨_, _, _, h5.cE, nn_is hp ⟨⟨by omega, by omega⟩, y.s.st, by rw [Int.toNat_natCast]; exact hat.cell (j := 35) rfl, ?_⟩⟩)⟩
  ·exfalso; simp at hneg; omega
  rw [Int.toNat_natCast]
  refine bsp_intro (fun h6 => ?_) (fun h6 => ⟨_, _, _, h5.cE, nn_is hp ⟨⟨by omega, by omega⟩, y.s.id, y.s.g, y.s.tx, y.s.r, y.s.st, y.s.mo, y.s.de, y.s.rs, y.le, y.ho, y.si, hat, ?_⟩⟩)
  ·have h6 : y.s.st ≠ 0 := by simpa using h6
   exact hfin 10 (by rw [hE0, if_pos h6]) (by decide) _ k05
  have h6 : y.s.st = 0 := by simpa using h6
  rw [if_neg (by omega)] at hE0
  refine ⟨(xholder_any y now hyo.si w5).mono fun e w6 ⟨he, k6⟩ => ⟨_, _, he, .of_k0 k6, fun n6 => ⟨_, gimp_intro fun _ => auEq (hdA_by hyo now) ha, ?_⟩⟩⟩
  rw [hdW_blk y a now h6]
  have k06 := k05.trans k6
  refine bsp_intro (fun h7 W7 hW7 => ?_) (fun h7 W7 hW7 => ?_)
  ·exact hfin 25 (by rw [hE0, if_pos h7]) (by decide) _ (hW7.k0 k06)
  have k7 : K0 w W7 := hW7.k0 k06
  rw [if_neg (by rw [h7]; decide)] at hE0
  have f0 := hW7.cells 0 rfl
  have f1 := hW7.cells 1 rfl
  have f2 := hW7.cells 2 rfl
  have hM : xdcM M f g a st rs now = { M with es := M.es.set i (plainE (finS39 y.s a now st rs)) } := by
   unfold xdcM
   rw [hE0, if_pos rfl]
   unfold Mo.up
   rw [<- dis_set (fun y => plainE (finS39 y.s a now st rs)) ho.dis hy hky]
  refine ⟨(xend_any (h.k0 k7) hy st a rs now).mono fun e w8 ⟨he, h8, k8⟩ => ⟨he, .of_kp k8 (fun z hz => ?_), by rw [hE0], by rw [hM]; exact h8, (Kp.mf0 k7).mft k8⟩⟩
  simp only [List.mem_cons, List.not_mem_nil, or_false] at hz
  rcases hz with rfl | rfl | rfl
  ·exact mf_no f0 rfl
  ·exact mf_no f1 rfl
  ·exact mf_no f2 rfl
end Go.Proofs.YtfacflbmlfbeeaaGreatDoor
namespace Go.Proofs.YtfacflbmlfbeeaaGreatDoor
open Go.RowKit Go.Sort Go.Maps
theorem enC_one (x : En) : ∀ v ∈ enC x, v.oneCell' = true := fun v hv => by
 unfold enC at hv
 rcases List.mem_append.1 hv with h | h
 ·exact arr_one x.s.id 32 v h
 rcases List.mem_append.1 h with h | h
 ·simp only [List.mem_cons, List.not_mem_nil, or_false] at h
  rcases h with h | h | h | h <;> (subst h; rfl)
 rcases List.mem_append.1 h with h | h
 ·exact arr_one x.s.mo 16 v h
 rcases List.mem_append.1 h with h | h
 ·simp only [List.mem_cons, List.not_mem_nil, or_false] at h
  rcases h with h | h | h <;> (subst h; rfl)
 rcases List.mem_append.1 h with h | h
 ·exact arr_one x.ho 16 v h
 ·simp only [List.mem_cons, List.not_mem_nil, or_false] at h
  subst h; rfl
theorem enCs_one (l : List En) : ∀ u ∈ l.flatMap enC, u.oneCell' = true := fun u hu => by
 obtain ⟨z, _, hz⟩ := List.mem_flatMap.1 hu
 exact enC_one z u hz
theorem enC_flat (l : List En) : (l.flatMap enC).length = l.length * 72 := len_flat enC 72 l (fun _ _ => rfl)
theorem src_en {w : World} {n : Nat} {x : En} {t : TypeId} {f : Nat × Nat} (h : w.heap[n]? = some (.cells (enC x).toArray t f)) : SrcP w (some ⟨n, 0, none⟩) (enC x) := src_block h (enC_one x)
set_option maxRecDepth 100000 in
set_option maxHeartbeats 16000000 in
theorem xsubmit_any {w : World} {B m : Nat} {M : Mo} {P : Pl} (h : MoR w B m M P) (ho : M.OK) (hs : M.es.Pairwise fun x y => cfM x.s y.s < 0) (f : Nat -> Int) (hf : BY f) (g tx : ByteArray) (now : Int) :
  Calls Tryz.prog 26 #[.pointer (some ⟨m, 0, none⟩), .agg (arrI .u8 f 32 0).toArray, .string g, .string tx, .int .i64 now] w fun e w' => e = .returned (.int .i64 (xsubE M f g tx now)) /\ ((xsubE M f g tx now ≠ 0 /\ MoR w' B m M P) \/ (xsubE M f g tx now = 0 /\ ∃ (L : List En) (P' : Pl), L.Perm (newE f g tx now :: M.es) /\ (L.Pairwise fun x y => cfM x.s y.s < 0) /\ MoR w' B m { M with es := L } P')) /\ Kp (MF w B) w w' := by
 refine vc_xsubmit m f g tx now w _ (fun n W hW => ?_)
 have kW : K0 w W := hW.kk rfl
 clear hW
 have hel := ho.el
 have hgl := ho.gl
 have hfin : ∀ (E : Int), xsubE M f g tx now = E -> E ≠ 0 -> ∀ w', K0 w w' -> Ending.returned (.int .i64 E) = Ending.returned (.int .i64 (xsubE M f g tx now)) /\ ((xsubE M f g tx now ≠ 0 /\ MoR w' B m M P) \/ (xsubE M f g tx now = 0 /\ ∃ (L : List En) (P' : Pl), L.Perm (newE f g tx now :: M.es) /\ (L.Pairwise fun x y => cfM x.s y.s < 0) /\ MoR w' B m { M with es := L } P')) /\ Kp (MF w B) w w' := fun E hE hn w' k => by
  rw [hE]
  exact ⟨rfl, .inl ⟨hn, h.k0 k⟩, .mf0 k⟩
 refine ⟨(xmin_any now W).mono fun e w1 ⟨he, k1⟩ => ⟨_, he, .of_k0 k1, bsp_intro (fun h1 => ?_) (fun h1 => ?_)⟩⟩
 ·exact hfin 2 (by unfold xsubE; rw [if_pos (minB_ft h1)]) (by decide) _ (kW.trans k1)
 have h1 := minB_ff h1
 have hn1 : ¬ minB now = false := by rw [h1]; decide
 have k01 := kW.trans k1
 refine ⟨(xgcheck_any g w1).mono fun e w2 ⟨he, k2⟩ => ⟨_, he, .of_k0 k2, bsp_intro (fun h2 => ?_) (fun h2 => bsp_intro (fun h3 => ?_) (fun h3 => ?_))⟩⟩
 ·have h2 : gnE g ≠ 0 := by simpa using h2
  exact hfin (gnE g) (by unfold xsubE; rw [if_neg hn1, if_pos h2]) h2 _ (k01.trans k2)
 ·have h2 : gnE g = 0 := by simpa using h2
  have h3 : 65536 < tx.size := by simp at h3; omega
  exact hfin 5 (by unfold xsubE; rw [if_neg hn1, if_neg (by omega), if_pos h3]) (by decide) _ (k01.trans k2)
 have h2 : gnE g = 0 := by simpa using h2
 have h3 : ¬ 65536 < tx.size := by simp at h3; omega
 have hgs := gnE_sz39 h2
 have k02 := k01.trans k2
 refine ⟨(xmods_any (h.k0 k02) (by omega) g).mono fun e w3 ⟨he, k3⟩ => ⟨_, _, _, he, .of_k0 k3, bsp_intro (fun h4 => ?_) (fun h4 => ?_)⟩⟩
 ·have h4 : (M.md g).l.length = 0 := by simp at h4; simp [h4]
  exact hfin 33 (by unfold xsubE; rw [if_neg hn1, if_neg (by omega), if_neg h3, if_pos h4]) (by decide) _ (k02.trans k3)
 have h4 : ¬ (M.md g).l.length = 0 := by intro e; rw [e] at h4; exact absurd h4 (by decide)
 have k03 := k02.trans k3
 refine ⟨(xfind39_any (h.k0 k03) (by omega) f hf (fun x hx => (ho.es x hx).1.s.id) g).mono fun e w4 ⟨hfd, k4⟩ => ?_⟩
 have k04 := k03.trans k4
 rcases hfd with ⟨he, hno⟩ | ⟨i, y, he, hy, hky⟩
 rotate_left
 ·refine ⟨_, he, .of_k0 k4, bsp_intro (fun _ => hfin 7 ?_ (by decide) _ k04) (fun h => ?_)⟩
  ·have hfd : M.fd (idI f, g) = some y := dis_fd ho.dis hy hky
   unfold xsubE
   rw [if_neg hn1, if_neg (by omega), if_neg h3, if_neg h4, hfd]
   rfl
  ·have := of_decide_eq_false h
   exfalso; omega
 have hfd : M.fd (idI f, g) = none := no_fd hno
 refine ⟨_, he, .of_k0 k4, bsp_intro (fun h => absurd h (by decide)) (fun _ W5 hW5 => ?_)⟩
 have k5 : K0 w W5 := hW5.k0 k04
 have h5 := h.k0 k5
 refine ⟨fun wx => K0 W5 wx, .refl _ _, M.room, fun wx k => (h5.k0 k).cR, ⟨(xlist_any h5 (by omega) ⟨#[]⟩ 0).mono fun e w6 ⟨⟨p6, c6, he, _⟩, k6⟩ => ⟨_, _, _, he, k6, .of_k0 k6, bsp_intro (fun h7 => ?_) (fun h7 n3 W7 hW7 => ?_)⟩⟩⟩
 ·have h7 : M.room <= ((M.ls ⟨#[]⟩ 0).length : Nat) := by simpa using h7
  exact hfin 9 (by unfold xsubE; rw [if_neg hn1, if_neg (by omega), if_neg h3, if_neg h4, if_neg (by rw [hfd]; decide), if_pos h7]) (by decide) _ (k5.trans k6)
 have h7 : ¬ M.room <= ((M.ls ⟨#[]⟩ 0).length : Nat) := by simpa using h7
 have h0 : xsubE M f g tx now = 0 := by unfold xsubE; rw [if_neg hn1, if_neg (by omega), if_neg h3, if_neg h4, if_neg (by rw [hfd]; decide), if_neg h7]
 have k7 : K0 w W7 := hW7.k0 (k5.trans k6)
 clear hfin
 have h77 := h.k0 k7
 have hesid : ∀ y ∈ M.es, BY y.s.id := fun y hy => (ho.es y hy).1.s.id
 refine ⟨fun vs w' => ∃ a : Nat, vs = [.int .i64 (a : Int)] /\ a <= M.es.length /\ (∀ (j : Nat) (y : En), j < a -> M.es[j]? = some y -> cfM y.s (newE f g tx now).s < 0) /\ K0 W7 w', fun vs _ => (match vs with | .int _ a :: _ => M.es.length - a.toNat | _ => 0), ⟨0, rfl, by omega, (fun j y h => by omega), .refl _ _⟩, ?_⟩
 rintro xa w8 ⟨a, hv, hal, hlow, k8⟩ hL8
 simp only [List.cons.injEq, Value.int.injEq, true_and, and_true] at hv
 subst hv
 clear hW5 hW7 hL8
 have h8 := h77.k0 k8
 rw [Int.toNat_natCast]
 refine ⟨_, _, _, fun Wx hx => (h8.k0 (hx.kk rfl)).cE, ?_⟩
 rcases Nat.lt_or_ge a M.es.length with hlt | hge
 ·have hd : decide ((a : Int) < (M.es.length : Int)) = true := by simp; omega
  obtain ⟨y, b, o, hy, hpy, haty⟩ := h8.rowE.get hlt
  have hym := List.mem_of_getElem? hy
  simp only [hd]
  refine ⟨_, _, _, gimp_intro fun _ Wx hx => (h8.k0 (hx.kk rfl)).cE, nn_is hpy ⟨gimp_intro fun _ => ⟨by omega, by omega⟩, y.s.id, y.s.g, y.s.tx, y.s.r, y.s.st, y.s.mo, y.s.de, y.s.rs, gimp_intro fun _ Wx hx => sb_left _ (haty.k0 (hx.kk rfl)), fun W9 hW9 => bsp_intro (fun _ => ?_) (fun h => by cases h)⟩⟩
  have k9 : K0 w8 W9 := hW9.kk rfl
  clear hW9
  refine ⟨(xbefore_any y.s (newE f g tx now).s (hesid y hym) hf (by have := (ho.es y hym).2; omega) (by show g.size <= _; omega) W9).mono fun e w10 ⟨he, k10⟩ => ⟨_, he, .of_k0 k10, bsp_intro (fun hc => ?_) (fun hc Wr hWr => ?_)⟩⟩
  ·have hc : cfM y.s (newE f g tx now).s < 0 := by simpa using hc
   rw [inc64 (by omega)]
   refine ⟨⟨a + 1, rfl, hlt, fun j z hj hz => ?_, k8.trans (k9.trans k10)⟩, by simp only [Int.toNat_natCast]; omega⟩
   by_cases e : j = a
   ·subst e; rw [hy] at hz; cases hz; exact hc
   ·exact hlow j z (by omega) hz
  ·have hc : ¬ cfM y.s (newE f g tx now).s < 0 := by simpa using hc
   have k11 : K0 W7 Wr := (k8.trans (k9.trans k10)).trans (hWr.kk rfl : K0 w10 Wr)
   have hsrt : (insL M.es a (newE f g tx now)).Pairwise fun x y => cfM x.s y.s < 0 := ins_sort cfE_ord hs hlow (fun z hz => by
    rw [hy] at hz
    cases hz
    have e1 := cfM_ord.anti (newE f g tx now).s y.s
    have e2 : cfM y.s (newE f g tx now).s ≠ 0 := fun e => hno y hym (ky_eq (hesid y hym) hf e)
    omega)
   have kr : K0 w Wr := k7.trans k11
   have hMr := h.k0 kr
   have hew := hMr.ew
   have hc0 := hWr.cells 0 rfl
   have hc1 := hWr.cells 1 rfl
   have hle := own_le hew
   have hBW : B <= Wr.heap.size := Nat.le_of_lt (Nat.lt_of_le_of_lt h.ge (block_lt hMr.st))
   have hT : ((M.es.flatMap enC).take (a * 72)).length = a * 72 := by rw [List.length_take, enC_flat]; omega
   have hD : ((M.es.flatMap enC).drop (a * 72)).length = (M.es.length - a) * 72 := by rw [List.length_drop, enC_flat]; omega
   have hst : ∀ {wx : World}, K0 Wr wx -> SrcP wx P.ep ((M.es.flatMap enC).take (a * 72)) := fun k => src_take (owns_kp hew k (fun _ _ h => h)) (enCs_one M.es) _
   have hsd : ∀ {wx : World}, K0 Wr wx -> SrcP wx (slA P.ep P.ec a 72) ((M.es.flatMap enC).drop (a * 72)) := fun k => src_drop (owns_kp hew k (fun _ _ h => h)) (enCs_one M.es) hal
   have fin : ∀ (p' : Option Addr) (c' : Nat) (w9 : World), w9.ownsRow Wr.heap.size 91 72 (.slice p' (0 + a + 1 + (M.es.length - a)) c') (0 + a + 1 + (M.es.length - a)) ((([] ++ (M.es.flatMap enC).take (a * 72)) ++ enC (newE f g tx now)) ++ (M.es.flatMap enC).drop (a * 72)) -> K0 Wr w9 -> ((∃ u : Value, w9.cell? ⟨m, 0 + 3, none⟩ = some u) /\ w9.frozen? ⟨m, 0 + 3, none⟩ = false) /\ ∀ w1 : World, PutB w9 m (0 + 3) [.slice p' (0 + a + 1 + (M.es.length - a)) c'] w1 -> KeptL [n3, n] Wr w1 /\ Ending.returned (.int .i64 0) = Ending.returned (.int .i64 (xsubE M f g tx now)) /\ ((xsubE M f g tx now ≠ 0 /\ MoR w1 B m M P) \/ (xsubE M f g tx now = 0 /\ ∃ (L : List En) (P' : Pl), L.Perm (newE f g tx now :: M.es) /\ (L.Pairwise fun x y => cfM x.s y.s < 0) /\ MoR w1 B m { M with es := L } P')) /\ Kp (MF w B) w w1 := fun p' c' w9 o9 k9 => by
    have h9 := hMr.k0 k9
    refine ⟨cell_wr h9.st (by show 0 + 3 < 4; omega), fun w1 hput => ?_⟩
    rw [List.nil_append, insL_flat enC 72 M.es a (newE f g tx now) enC_length] at o9
    have o9' := own_base o9 hBW
    obtain ⟨hM1, kk1⟩ := h9.newe (L := insL M.es a (newE f g tx now)) (p := p') (c := c') (by rw [insL_len hal]; exact o9') (by rw [insL_len hal]; exact hput)
    refine ⟨.of_kp ((Kp.mf0 k9).mft kk1) (fun z hz => ?_), by rw [h0], .inr ⟨h0, insL M.es a (newE f g tx now), _, insL_perm _ _ _, hsrt, hM1⟩, (Kp.mf0 (kr.trans k9)).mft kk1⟩
    simp only [List.mem_cons, List.not_mem_nil, or_false] at hz
    rcases hz with rfl | rfl
    ·exact mf_no hc0 rfl
    ·exact mf_no hc1 rfl
   refine ⟨fun wx => K0 Wr wx, .refl _ _, _, _, _, fun wx k => (hMr.k0 k).cE, ⟨by omega, by omega⟩, f, g, tx, now, 0, fun _ => 0, 0, ⟨#[]⟩, fun wx k => AtL_block (k.blk hc0 (fun h => h)) rfl, _, _, _, fun wx k => (hMr.k0 k).cE, ⟨by omega, by omega⟩, ?_, ?_⟩
   ·exact fun n6 w6 h6 => ⟨h6.kp _,
     app_own (w0 := Wr) (E := 152) (m := a) (own_none h6.ge h6.block) (h6.kp _) (by omega) (by omega) hT (hst (h6.kp _)) (fun p7 c7 w7 o7 k7 _ => ⟨k7, fun n8 w8 h8 => ⟨k7.trans (h8.kp _),
      app_own (E := 152) (m := 1) (owns_kp o7 (h8.kp (fun _ => False)) (fun _ _ h => h)) (k7.trans (h8.kp _)) (by omega) (by omega) rfl (src_en (x := newE f g tx now) h8.block) (fun p9 c9 w9 o9 k9 _ => ⟨k9,
       app_own (E := 152) (m := M.es.length - a) o9 k9 (by omega) (by omega) hD (hsd k9) (fun pa ca wa oa ka _ => fin pa ca wa oa ka)⟩)⟩⟩),
     fun n7 w7 h7 => ⟨(h6.kp _).trans (h7.kp _), app_own (w0 := Wr) (E := 152) (m := a) (own_none h6.ge ((h7.kp (fun _ => False)).blk h6.block (fun h => h))) ((h6.kp _).trans (h7.kp _)) (by omega) (by omega) hT (hst ((h6.kp _).trans (h7.kp _))) (fun p8 c8 w8 o8 k8 g8 => ⟨k8,
      app_own (E := 152) (m := 1) o8 k8 (by omega) (by omega) rfl (src_en (x := newE f g tx now) (g8.blk h7.block (fun e => by have := own_n39 e; have := h6.size; have := h7.ge; omega))) (fun p9 c9 w9 o9 k9 _ => ⟨k9,
       app_own (E := 152) (m := M.es.length - a) o9 k9 (by omega) (by omega) hD (hsd k9) (fun pa ca wa oa ka _ => fin pa ca wa oa ka)⟩)⟩)⟩⟩
   ·exact fun n6 w6 h6 => ⟨h6.kp _, fun n7 w7 h7 => ⟨(h6.kp _).trans (h7.kp _),
     app_own (w0 := Wr) (E := 152) (m := a) (own_none (Nat.le_trans (h6.kp (fun _ => False)).size h7.ge) h7.block) ((h6.kp _).trans (h7.kp _)) (by omega) (by omega) hT (hst ((h6.kp _).trans (h7.kp _))) (fun p8 c8 w8 o8 k8 g8 => ⟨k8,
      app_own (E := 152) (m := 1) o8 k8 (by omega) (by omega) rfl (src_en (x := newE f g tx now) (g8.blk ((h7.kp (fun _ => False)).blk h6.block (fun h => h)) (fun e => by have := own_n39 e; have := h6.size; have := h7.ge; omega))) (fun p9 c9 w9 o9 k9 _ => ⟨k9,
       app_own (E := 152) (m := M.es.length - a) o9 k9 (by omega) (by omega) hD (hsd k9) (fun pa ca wa oa ka _ => fin pa ca wa oa ka)⟩)⟩)⟩⟩
 ·have hd : decide ((a : Int) < (M.es.length : Int)) = false := by simp; omega
  simp only [hd]
  refine ⟨none, 0, 0, gimp_neg rfl, nn_neg rfl fun _ _ => ⟨gimp_neg rfl, fun _ => 0, ⟨#[]⟩, ⟨#[]⟩, 0, 0, fun _ => 0, 0, ⟨#[]⟩, gimp_neg rfl, fun W9 hW9 => bsp_intro (fun h => by cases h) (fun _ => ⟨.refl _ _, fun Wr hWr => ?_⟩)⟩⟩
  ·have k11 : K0 W7 Wr := (k8.trans (hW9.kk rfl : K0 w8 W9)).trans (hWr.kk rfl : K0 W9 Wr)
   clear hW9
   have hsrt : (insL M.es a (newE f g tx now)).Pairwise fun x y => cfM x.s y.s < 0 := ins_sort cfE_ord hs hlow (fun z hz => by
    rw [List.getElem?_eq_none (by omega)] at hz
    cases hz)
   have kr : K0 w Wr := k7.trans k11
   have hMr := h.k0 kr
   have hew := hMr.ew
   have hc0 := hWr.cells 0 rfl
   have hc1 := hWr.cells 1 rfl
   have hle := own_le hew
   have hBW : B <= Wr.heap.size := Nat.le_of_lt (Nat.lt_of_le_of_lt h.ge (block_lt hMr.st))
   have hT : ((M.es.flatMap enC).take (a * 72)).length = a * 72 := by rw [List.length_take, enC_flat]; omega
   have hD : ((M.es.flatMap enC).drop (a * 72)).length = (M.es.length - a) * 72 := by rw [List.length_drop, enC_flat]; omega
   have hst : ∀ {wx : World}, K0 Wr wx -> SrcP wx P.ep ((M.es.flatMap enC).take (a * 72)) := fun k => src_take (owns_kp hew k (fun _ _ h => h)) (enCs_one M.es) _
   have hsd : ∀ {wx : World}, K0 Wr wx -> SrcP wx (slA P.ep P.ec a 72) ((M.es.flatMap enC).drop (a * 72)) := fun k => src_drop (owns_kp hew k (fun _ _ h => h)) (enCs_one M.es) hal
   have fin : ∀ (p' : Option Addr) (c' : Nat) (w9 : World), w9.ownsRow Wr.heap.size 91 72 (.slice p' (0 + a + 1 + (M.es.length - a)) c') (0 + a + 1 + (M.es.length - a)) ((([] ++ (M.es.flatMap enC).take (a * 72)) ++ enC (newE f g tx now)) ++ (M.es.flatMap enC).drop (a * 72)) -> K0 Wr w9 -> ((∃ u : Value, w9.cell? ⟨m, 0 + 3, none⟩ = some u) /\ w9.frozen? ⟨m, 0 + 3, none⟩ = false) /\ ∀ w1 : World, PutB w9 m (0 + 3) [.slice p' (0 + a + 1 + (M.es.length - a)) c'] w1 -> KeptL [n3, n] Wr w1 /\ Ending.returned (.int .i64 0) = Ending.returned (.int .i64 (xsubE M f g tx now)) /\ ((xsubE M f g tx now ≠ 0 /\ MoR w1 B m M P) \/ (xsubE M f g tx now = 0 /\ ∃ (L : List En) (P' : Pl), L.Perm (newE f g tx now :: M.es) /\ (L.Pairwise fun x y => cfM x.s y.s < 0) /\ MoR w1 B m { M with es := L } P')) /\ Kp (MF w B) w w1 := fun p' c' w9 o9 k9 => by
    have h9 := hMr.k0 k9
    refine ⟨cell_wr h9.st (by show 0 + 3 < 4; omega), fun w1 hput => ?_⟩
    rw [List.nil_append, insL_flat enC 72 M.es a (newE f g tx now) enC_length] at o9
    have o9' := own_base o9 hBW
    obtain ⟨hM1, kk1⟩ := h9.newe (L := insL M.es a (newE f g tx now)) (p := p') (c := c') (by rw [insL_len hal]; exact o9') (by rw [insL_len hal]; exact hput)
    refine ⟨.of_kp ((Kp.mf0 k9).mft kk1) (fun z hz => ?_), by rw [h0], .inr ⟨h0, insL M.es a (newE f g tx now), _, insL_perm _ _ _, hsrt, hM1⟩, (Kp.mf0 (kr.trans k9)).mft kk1⟩
    simp only [List.mem_cons, List.not_mem_nil, or_false] at hz
    rcases hz with rfl | rfl
    ·exact mf_no hc0 rfl
    ·exact mf_no hc1 rfl
   refine ⟨fun wx => K0 Wr wx, .refl _ _, _, _, _, fun wx k => (hMr.k0 k).cE, ⟨by omega, by omega⟩, f, g, tx, now, 0, fun _ => 0, 0, ⟨#[]⟩, fun wx k => AtL_block (k.blk hc0 (fun h => h)) rfl, _, _, _, fun wx k => (hMr.k0 k).cE, ⟨by omega, by omega⟩, ?_, ?_⟩
   ·exact fun n6 w6 h6 => ⟨h6.kp _,
     app_own (w0 := Wr) (E := 152) (m := a) (own_none h6.ge h6.block) (h6.kp _) (by omega) (by omega) hT (hst (h6.kp _)) (fun p7 c7 w7 o7 k7 _ => ⟨k7, fun n8 w8 h8 => ⟨k7.trans (h8.kp _),
      app_own (E := 152) (m := 1) (owns_kp o7 (h8.kp (fun _ => False)) (fun _ _ h => h)) (k7.trans (h8.kp _)) (by omega) (by omega) rfl (src_en (x := newE f g tx now) h8.block) (fun p9 c9 w9 o9 k9 _ => ⟨k9,
       app_own (E := 152) (m := M.es.length - a) o9 k9 (by omega) (by omega) hD (hsd k9) (fun pa ca wa oa ka _ => fin pa ca wa oa ka)⟩)⟩⟩),
     fun n7 w7 h7 => ⟨(h6.kp _).trans (h7.kp _), app_own (w0 := Wr) (E := 152) (m := a) (own_none h6.ge ((h7.kp (fun _ => False)).blk h6.block (fun h => h))) ((h6.kp _).trans (h7.kp _)) (by omega) (by omega) hT (hst ((h6.kp _).trans (h7.kp _))) (fun p8 c8 w8 o8 k8 g8 => ⟨k8,
      app_own (E := 152) (m := 1) o8 k8 (by omega) (by omega) rfl (src_en (x := newE f g tx now) (g8.blk h7.block (fun e => by have := own_n39 e; have := h6.size; have := h7.ge; omega))) (fun p9 c9 w9 o9 k9 _ => ⟨k9,
       app_own (E := 152) (m := M.es.length - a) o9 k9 (by omega) (by omega) hD (hsd k9) (fun pa ca wa oa ka _ => fin pa ca wa oa ka)⟩)⟩)⟩⟩
   ·exact fun n6 w6 h6 => ⟨h6.kp _, fun n7 w7 h7 => ⟨(h6.kp _).trans (h7.kp _),
     app_own (w0 := Wr) (E := 152) (m := a) (own_none (Nat.le_trans (h6.kp (fun _ => False)).size h7.ge) h7.block) ((h6.kp _).trans (h7.kp _)) (by omega) (by omega) hT (hst ((h6.kp _).trans (h7.kp _))) (fun p8 c8 w8 o8 k8 g8 => ⟨k8,
      app_own (E := 152) (m := 1) o8 k8 (by omega) (by omega) rfl (src_en (x := newE f g tx now) (g8.blk ((h7.kp (fun _ => False)).blk h6.block (fun h => h)) (fun e => by have := own_n39 e; have := h6.size; have := h7.ge; omega))) (fun p9 c9 w9 o9 k9 _ => ⟨k9,
       app_own (E := 152) (m := M.es.length - a) o9 k9 (by omega) (by omega) hD (hsd k9) (fun pa ca wa oa ka _ => fin pa ca wa oa ka)⟩)⟩)⟩⟩
end Go.Proofs.YtfacflbmlfbeeaaGreatDoor
namespace Go.Proofs.YtfacflbmlfbeeaaGreatDoor
set_option maxRecDepth 100000
set_option linter.unusedVariables false
def VC_lstart (room : Int) (days : Int) (w : World) (R : Ending -> World -> Prop) : Prop := CallsS Tryz.prog 13 #[.int .i64 room, .int .i64 days] w fun (e : Ending) (w' : World) => ∃ (x : Option Addr) (x_1 : Int), e = .returned (.tuple #[.pointer x, .int .i64 x_1]) /\ KeptL [] w w' /\ ∀ (n : Nat) (W : World), Loc w.heap.size [Blk.mk n 57 [Value.int .i64 room, .int .i64 days, .slice none 0 0, .slice none 0 0] 2] w' W -> CallsS Tryz.prog 20 #[.int .u8 2] W fun (e : Ending) (w' : World) => ∃ (f : Nat -> Int), e = .returned (.agg (arrI .u8 f 16 0).toArray) /\ KeptL [n] W w' /\ CallsS Tryz.prog 20 #[.int .u8 0] w' fun (e : Ending) (w'_1 : World) => ∃ (f_1 : Nat -> Int), e = .returned (.agg (arrI .u8 f_1 16 0).toArray) /\ KeptL [n] w' w'_1 /\ CallsS Tryz.prog 20 #[.int .u8 1] w'_1 fun (e : Ending) (w' : World) => ∃ (f_2 : Nat -> Int), e = .returned (.agg (arrI .u8 f_2 16 0).toArray) /\
 KeptL [n] w'_1 w' /\ ∀ (n_1 : Nat) (W : World), Loc w.heap.size [Blk.mk n_1 45 (arrI .u8 f 16 0 ++ (arrI .u8 f_1 16 0 ++ (arrI .u8 f_2 16 0))) 2, Blk.mk n 57 [Value.int .i64 room, .int .i64 days, .slice none 0 0, .slice none 0 0] 0] w' W -> CallsS Tryz.prog 38 #[.pointer x, .string (ByteArray.mk #[103]), .slice (some (Addr.mk n_1 0 none)) 3 3] W fun (e : Ending) (w' : World) => ∃ (x_2 : Int), e = .returned (.int .i64 x_2) /\ KeptL [n] W w' /\ CallsS Tryz.prog 20 #[.int .u8 2] w' fun (e : Ending) (w'_2 : World) => ∃ (f : Nat -> Int), e = .returned (.agg (arrI .u8 f 16 0).toArray) /\ KeptL [n] w' w'_2 /\ CallsS Tryz.prog 20 #[.int .u8 0] w'_2 fun (e : Ending) (w' : World) => ∃ (f_3 : Nat -> Int), e = .returned (.agg (arrI .u8 f_3 16 0).toArray) /\ KeptL [n] w'_2 w' /\ CallsS Tryz.prog 20 #[.int .u8 1] w' fun (e : Ending) (w'_3 : World) => ∃ (f_4 : Nat -> Int), e = .returned (.agg
 (arrI .u8 f_4 16 0).toArray) /\ KeptL [n] w' w'_3 /\ ∀ (n_2 : Nat) (W : World), Loc w.heap.size [Blk.mk n_2 45 (arrI .u8 f 16 0 ++ (arrI .u8 f_3 16 0 ++ (arrI .u8 f_4 16 0))) 2, Blk.mk n 57 [Value.int .i64 room, .int .i64 days, .slice none 0 0, .slice none 0 0] 0] w'_3 W -> CallsS Tryz.prog 25 #[.pointer (some (Addr.mk n 0 none)), .string (ByteArray.mk #[103]), .slice (some (Addr.mk n_2 0 none)) 3 3] W fun (e : Ending) (w' : World) => ∃ (x_3 : Int), e = .returned (.int .i64 x_3) /\ KeptL [] W w' /\ CallsS Tryz.prog 20 #[.int .u8 1] w' fun (e : Ending) (w'_4 : World) => ∃ (f : Nat -> Int), e = .returned (.agg (arrI .u8 f 16 0).toArray) /\ KeptL [] w' w'_4 /\ ∀ (n_3 : Nat) (W : World), Loc w.heap.size [Blk.mk n_3 45 (arrI .u8 f 16 0) 2] w'_4 W -> CallsS Tryz.prog 38 #[.pointer x, .string (ByteArray.mk #[97, 46, 98]), .slice (some (Addr.mk n_3 0 none)) 1 1]
 W fun (e : Ending) (w' : World) => ∃ (x_4 : Int), e = .returned (.int .i64 x_4) /\ KeptL [] W w' /\ CallsS Tryz.prog 20 #[.int .u8 1] w' fun (e : Ending) (w'_5 : World) => ∃ (f : Nat -> Int), e = .returned (.agg (arrI .u8 f 16 0).toArray) /\ KeptL [] w' w'_5 /\ ∀ (n_4 : Nat) (W : World), Loc w.heap.size [Blk.mk n_4 45 (arrI .u8 f 16 0) 2] w'_5 W -> CallsS Tryz.prog 25 #[.pointer (some (Addr.mk n 0 none)), .string (ByteArray.mk #[97, 46, 98]), .slice (some (Addr.mk n_4 0 none)) 1 1] W fun (e : Ending) (w' : World) => ∃ (x_5 : Int), e = .returned (.int .i64 x_5) /\ KeptL [] W w' /\ R (.returned (.tuple #[.pointer x, .pointer (some (Addr.mk n 0 none))])) w'
theorem vc_lstart (room : Int) (days : Int) (w : World) (R : Ending -> World -> Prop) (h : VC_lstart room days w R) : Calls Tryz.prog 17 ([Value.int .i64 room, .int .i64 days] : List Value).toArray w R :=
 calls_of_exec2' (loops := []) (tails := []) (joins := []) (boxes := []) (rngs := []) (c := Tryz.f17.body.getD .skip) pur1_ok Tryz.func17 (by kernel_rfl) (by kernel_rfl) h
end Go.Proofs.YtfacflbmlfbeeaaGreatDoor
namespace Go.Proofs.YtfacflbmlfbeeaaGreatDoor
open Go.RowKit Go.Sort Go.Maps
def kAB : ByteArray := ⟨#[97, 46, 98]⟩
theorem au3 : ∀ z ∈ [auN 2, auN 0, auN 1], BY z /\ NZ 16 z := fun z hz => by
 simp only [List.mem_cons, List.not_mem_nil, or_false] at hz
 rcases hz with rfl | rfl | rfl <;> exact auN_ok (by decide)
theorem au1 : ∀ z ∈ [auN 1], BY z /\ NZ 16 z := fun z hz => au3 z (by
 simp only [List.mem_cons, List.not_mem_nil, or_false] at hz
 subst hz; simp)
theorem set3 : setE kG [auN 2, auN 0, auN 1] = 0 := by
 unfold setE
 rw [if_neg (by rw [k_gn]; decide), if_neg (by decide), if_pos]
 decide +kernel
theorem set1 : setE kAB [auN 1] = 0 := by
 unfold setE
 rw [if_neg (by decide +kernel), if_neg (by decide), if_pos]
 decide +kernel
theorem srt3 : ([auN 0, auN 1, auN 2] : List (Nat -> Int)).Pairwise fun x y => cfA x y < 0 := by
 have h1 : cfA (auN 0) (auN 1) < 0 := by decide +kernel
 have h2 : cfA (auN 0) (auN 2) < 0 := by decide +kernel
 have h3 : cfA (auN 1) (auN 2) < 0 := by decide +kernel
 simp [h1, h2, h3]
structure M0 (room days : Int) (M : Mo) : Prop where
 room : M.room = room
 days : M.days = days
 es : M.es = []
 gs : M.gs.map gpl = [(kG, [auN 0, auN 1, auN 2]), (kAB, [auN 1])]
theorem M0.moe {r d : Int} {M N : Mo} (h : M0 r d M) (k : M0 r d N) : MoE M N := ⟨by rw [k.room, h.room], by rw [k.days, h.days], by rw [k.es, h.es], by rw [k.gs, h.gs]⟩
theorem M0.nm {r d : Int} {M : Mo} (h : M0 r d M) : NmD M := by
 have e : M.gs.Pairwise fun x y => (gpl x).1 ≠ (gpl y).1 := by
  rw [<- List.pairwise_map (f := gpl) (R := fun a b => a.1 ≠ b.1), h.gs]
  have : ¬ kG = kAB := by decide
  simp [this]
 exact e
theorem M0.st {r d : Int} {M : Mo} (h : M0 r d M) (hr : 0 <= r) : St r d M := ⟨h.room, h.days, by rw [ws_eq, h.es, h.room]; exact hr, fun y hy => by rw [h.es] at hy; cases hy⟩
theorem M0.md {r d : Int} {M : Mo} (h : M0 r d M) : (M.md kG).l = [auN 0, auN 1, auN 2] := by
 have e : M.gs.map gpl = [(⟨kG, ⟨[auN 0, auN 1, auN 2], none, 0⟩⟩ : Gx), ⟨kAB, ⟨[auN 1], none, 0⟩⟩].map gpl := by rw [h.gs]; rfl
 have := gfind (g := kG) e
 unfold Mo.md
 rw [this]
 rw [List.find?_cons, show decide (kG = kG) = true from rfl]
 rfl
theorem setR_msn {q q' : Qu} {g : ByteArray} {l : List (Nat -> Int)} (h : setR q g l q') (hm : MsN q) : MsN q' := by
 rcases h with ⟨_, rfl⟩ | ⟨_, _, rfl⟩ | ⟨_, hne, x, hp, _, _, rfl⟩
 ·exact hm
 ·intro c y hy
  have hy : aget (adel q.ms g) c = some y := hy
  rw [aget_adel] at hy
  split at hy
  ·cases hy
  ·exact hm c y hy
 ·intro c y hy
  have hy : aget (aset q.ms g x) c = some y := hy
  rw [aget_aset] at hy
  split at hy
  ·cases hy
   intro e
   rw [e] at hp
   exact hne (List.nil_perm.1 hp)
  ·exact hm c y hy
theorem row3 {W : World} {n : Nat} {a b c : Nat -> Int} {f : Nat × Nat} (h : W.heap[n]? = some (.cells (arrI .u8 a 16 0 ++ (arrI .u8 b 16 0 ++ arrI .u8 c 16 0)).toArray 45 f)) : RowA auC 16 W (some ⟨n, 0, none⟩) [a, b, c] := fun k y hy => by
 match k, hy with
 | 0, hy => cases hy; exact ⟨n, 0, rfl, AtL_block h rfl⟩
 | 1, hy => cases hy; exact ⟨n, 0, rfl, AtL_block h rfl⟩
 | 2, hy => cases hy; exact ⟨n, 0, rfl, AtL_block h rfl⟩
 | k + 3, hy => cases hy
theorem row1 {W : World} {n : Nat} {a : Nat -> Int} {f : Nat × Nat} (h : W.heap[n]? = some (.cells (arrI .u8 a 16 0).toArray 45 f)) : RowA auC 16 W (some ⟨n, 0, none⟩) [a] := fun k y hy => by
 match k, hy with
 | 0, hy => cases hy; exact ⟨n, 0, rfl, AtL_block h rfl⟩
 | k + 1, hy => cases hy
theorem gw_lt {w : World} (hG : GW w) : 0 < w.heap.size := by
 obtain ⟨m, hm⟩ := hG
 unfold World.cell? at hm
 rcases Nat.lt_or_ge 0 w.heap.size with h | h
 ·exact h
 ·simp only [Array.getElem?_eq_none h] at hm
  cases hm
set_option maxRecDepth 100000 in
set_option maxHeartbeats 4000000 in
theorem lstart_any (room days : Int) (hnew : newR room days = false) (w : World) (hG : GW w) :
  Calls Tryz.prog 17 #[.int .i64 room, .int .i64 days] w fun e w' => ∃ (b mb eb m : Nat) (q : Qu) (M : Mo) (P : Pl), e = .returned (.tuple #[.pointer (some ⟨b, 0, none⟩), .pointer (some ⟨m, 0, none⟩)]) /\ SW w w' b mb eb m q M P /\ Rq 2 q M /\ M0 room days M /\ MsN q := by
 refine vc_lstart room days w _ ⟨(mnew_any room days w (gw_lt hG)).mono fun e w1 hN => ?_⟩
 rcases hN with ⟨h, _⟩ | ⟨_, b, mb, eb, he, hq, k1, gb, gm, ge⟩
 ·rw [hnew] at h; cases h
 refine ⟨_, _, he, .of_k0 k1, fun m W hW => ?_⟩
 have kW : K0 w1 W := hW.kk rfl
 have k01 := k1.trans kW
 have gm0 : w1.heap.size <= m := hW.fresh 0 rfl rfl
 have s1 := k1.size
 have hM : MoR W w.heap.size m ⟨room, days, [], []⟩ ⟨none, 0, none, 0⟩ := ⟨hW.cells 0 rfl, by omega, World.ownsRow_nil _ _ _ _, World.ownsRow_nil _ _ _ _, fun y hy => by cases hy⟩
 have h0 : SW w W b mb eb m ⟨room, days, 0, [], []⟩ ⟨room, days, [], []⟩ ⟨none, 0, none, 0⟩ := ⟨hq.k0 kW, (fun g x hx => by cases hx), hM, k01, gb, gm, ge⟩
 have r0 := Rq.new room days hnew
 have n0 : MsN ⟨room, days, 0, [], []⟩ := fun g x hx => by cases hx
 clear hW hM
 refine ⟨(lauthor_any 2 W).mono fun e w2 ⟨he, k2⟩ => ⟨_, he, .of_k0 k2, ⟨(lauthor_any 0 w2).mono fun e w3 ⟨he, k3⟩ => ⟨_, he, .of_k0 k3, ⟨(lauthor_any 1 w3).mono fun e w4 ⟨he, k4⟩ => ⟨_, he, .of_k0 k4, fun n1 W5 hW5 => ?_⟩⟩⟩⟩⟩⟩
 have h5 := h0.k0 (((k2.trans k3).trans k4).trans (hW5.kk rfl))
 have c5 := hW5.cells 0 rfl
 clear hW5
 refine ⟨(setModsQ_any h5.mq h5.qs kG [auN 2, auN 0, auN 1] (some ⟨n1, 0, none⟩) 3 (row3 c5) (fun g o e => by cases e; exact block_lt c5) (fun z hz => (au3 z hz).1) (h5.gw hG)).mono fun e w6 ⟨he, ⟨q6, hs6, hq6, hQ6⟩, k6⟩ => ⟨_, he, h5.qk k6 (fun z hz => ?_), ?_⟩⟩
 ·rcases List.mem_singleton.1 hz with rfl
  exact ⟨_, _, _, h5.mr.st, rfl⟩
 have h6 := h5.qopS hq6 hQ6 k6
 refine ⟨(lauthor_any 2 w6).mono fun e w7 ⟨he, k7⟩ => ⟨_, he, .of_k0 k7, ⟨(lauthor_any 0 w7).mono fun e w8 ⟨he, k8⟩ => ⟨_, he, .of_k0 k8, ⟨(lauthor_any 1 w8).mono fun e w9 ⟨he, k9⟩ => ⟨_, he, .of_k0 k9, fun n2 W10 hW10 => ?_⟩⟩⟩⟩⟩⟩
 have h10 := h6.k0 (((k7.trans k8).trans k9).trans (hW10.kk rfl))
 have c10 := hW10.cells 0 rfl
 clear hW10
 refine ⟨(xset_any h10.mr (by show (0 : Nat) <= _; omega) kG [auN 2, auN 0, auN 1] (some ⟨n2, 0, none⟩) 3 (row3 c10) (fun z hz => (au3 z hz).1)).mono fun e w11 ⟨he, hx, k11⟩ => ⟨_, he, .of_kp k11 (fun z hz => by cases hz), ?_⟩⟩
 rcases hx with ⟨hne, _⟩ | ⟨_, X, P11, hp11, hs11, hM11⟩
 ·exact absurd set3 hne
 have h11 := h10.mop hM11 k11
 have r11 := r0.setr au3 hs6 set3 hp11 hs11
 have n11 := setR_msn hs6 n0
 refine ⟨(lauthor_any 1 w11).mono fun e w12 ⟨he, k12⟩ => ⟨_, he, .of_k0 k12, fun n3 W13 hW13 => ?_⟩⟩
 have h13 := h11.k0 (k12.trans (hW13.kk rfl))
 have c13 := hW13.cells 0 rfl
 clear hW13
 refine ⟨(setModsQ_any h13.mq h13.qs kAB [auN 1] (some ⟨n3, 0, none⟩) 1 (row1 c13) (fun g o e => by cases e; exact block_lt c13) (fun z hz => (au1 z hz).1) (h13.gw hG)).mono fun e w14 ⟨he, ⟨q14, hs14, hq14, hQ14⟩, k14⟩ => ⟨_, he, .of_kp k14 (fun z hz => by cases hz), ?_⟩⟩
 have h14 := h13.qopS hq14 hQ14 k14
 refine ⟨(lauthor_any 1 w14).mono fun e w15 ⟨he, k15⟩ => ⟨_, he, .of_k0 k15, fun n4 W16 hW16 => ?_⟩⟩
 have h16 := h14.k0 (k15.trans (hW16.kk rfl))
 have c16 := hW16.cells 0 rfl
 clear hW16
 refine ⟨(xset_any h16.mr (by have := r11.gl; show (gset [] kG X).length <= 1000000; have : (gset [] kG X).length <= 0 + 1 := this; omega) kAB [auN 1] (some ⟨n4, 0, none⟩) 1 (row1 c16) (fun z hz => (au1 z hz).1)).mono fun e w17 ⟨he, hx, k17⟩ => ⟨_, he, .of_kp k17 (fun z hz => by cases hz), ?_⟩⟩
 rcases hx with ⟨hne, _⟩ | ⟨_, Z, P17, hp17, hs17, hM17⟩
 ·exact absurd set1 hne
 have h17 := h16.mop hM17 k17
 have r17 := r11.setr au1 hs14 set1 hp17 hs17
 have hX : X.l = [auN 0, auN 1, auN 2] := sort_uniq (cf := cfA) cfA_ord.anti (hp11.trans (List.Perm.swap _ _ _ |>.trans (List.Perm.cons _ (List.Perm.swap _ _ _)))) hs11 srt3
 have hZ : Z.l = [auN 1] := List.perm_singleton.1 hp17
 refine ⟨b, mb, eb, m, q14, _, P17, rfl, h17, r17, ⟨rfl, rfl, rfl, ?_⟩, setR_msn hs14 n11⟩
 show (gset (gset [] kG X) kAB Z).map gpl = _
 have hne : ¬ kG = kAB := by decide
 simp only [gset, hne, if_false, List.map_cons, List.map_nil, gpl, hX, hZ]
end Go.Proofs.YtfacflbmlfbeeaaGreatDoor
namespace Go.Proofs.YtfacflbmlfbeeaaGreatDoor
set_option maxRecDepth 100000
set_option linter.unusedVariables false
def VC_ceq (k : Int) (f : Nat -> Int) (g : ByteArray) (w : World) (R : Ending -> World -> Prop) : Prop := ∀ (n n_1 : Nat), ∃ (f_1 : Nat -> Int), gimp (k == k) (∀ (W : World), Loc w.heap.size [Blk.mk n_1 42 ([Value.int .i64 k] ++ arrI .u8 f 32 0 ++ [Value.string g, .int .i64 0, .bool false, .slice none 0 0, .string (ByteArray.mk #[]), .int .i64 0, .int .i64 0, .int .u8 0, .int .u8 0, .int .u8 0, .int .u8 0, .int .u8 0, .int .u8 0, .int .u8 0, .int .u8 0, .int .u8 0, .int .u8 0, .int .u8 0, .int .u8 0, .int .u8 0, .int .u8 0, .int .u8 0, .int .u8 0]) 2, Blk.mk n 42 ([Value.int .i64 k] ++ arrI .u8 f 32 0 ++ [Value.string g, .int .i64 0, .bool false, .slice none 0 0, .string (ByteArray.mk #[]), .int .i64 0, .int .i64 0, .int .u8 0, .int .u8 0, .int .u8 0, .int .u8 0, .int .u8 0, .int .u8 0, .int .u8 0, .int .u8 0, .int .u8 0, .int .u8 0, .int .u8 0,
 .int .u8 0, .int .u8 0, .int .u8 0, .int .u8 0, .int .u8 0]) 2] w W -> AtL W n (0 + 1) (arrI .u8 f_1 32 0)) /\ ∃ (f_2 : Nat -> Int), gimp (k == k) (∀ (W : World), Loc w.heap.size [Blk.mk n_1 42 ([Value.int .i64 k] ++ arrI .u8 f 32 0 ++ [Value.string g, .int .i64 0, .bool false, .slice none 0 0, .string (ByteArray.mk #[]), .int .i64 0, .int .i64 0, .int .u8 0, .int .u8 0, .int .u8 0, .int .u8 0, .int .u8 0, .int .u8 0, .int .u8 0, .int .u8 0, .int .u8 0, .int .u8 0, .int .u8 0, .int .u8 0, .int .u8 0, .int .u8 0, .int .u8 0, .int .u8 0]) 2, Blk.mk n 42 ([Value.int .i64 k] ++ arrI .u8 f 32 0 ++ [Value.string g, .int .i64 0, .bool false, .slice none 0 0, .string (ByteArray.mk #[]), .int .i64 0, .int .i64 0, .int .u8 0, .int .u8 0, .int .u8 0, .int .u8 0, .int .u8 0, .int .u8 0, .int .u8 0, .int .u8 0, .int .u8 0, .int .u8 0, .int .u8 0, .int .u8 0, .int .u8 0, .int .u8 0,
 .int .u8 0, .int .u8 0]) 2] w W -> AtL W n_1 (0 + 1) (arrI .u8 f_2 32 0)) /\ ∃ (r : Bool), gimp (k == k) (EqP Tryz.prog 32 (.agg (arrI .u8 f_1 32 0).toArray) (.agg (arrI .u8 f_2 32 0).toArray) r) /\ ∃ (x : ByteArray), gimp (k == k && r) (∀ (W : World), Loc w.heap.size [Blk.mk n_1 42 ([Value.int .i64 k] ++ arrI .u8 f 32 0 ++ [Value.string g, .int .i64 0, .bool false, .slice none 0 0, .string (ByteArray.mk #[]), .int .i64 0, .int .i64 0, .int .u8 0, .int .u8 0, .int .u8 0, .int .u8 0, .int .u8 0, .int .u8 0, .int .u8 0, .int .u8 0, .int .u8 0, .int .u8 0, .int .u8 0, .int .u8 0, .int .u8 0, .int .u8 0, .int .u8 0, .int .u8 0]) 2, Blk.mk n 42 ([Value.int .i64 k] ++ arrI .u8 f 32 0 ++ [Value.string g, .int .i64 0, .bool false, .slice none 0 0, .string (ByteArray.mk #[]), .int .i64 0, .int .i64 0, .int .u8 0, .int .u8 0, .int .u8 0, .int .u8 0, .int .u8 0, .int .u8 0,
 .int .u8 0, .int .u8 0, .int .u8 0, .int .u8 0, .int .u8 0, .int .u8 0, .int .u8 0, .int .u8 0, .int .u8 0, .int .u8 0]) 2] w W -> W.cell? (Addr.mk n (0 + 33) none) = some (.string x)) /\ ∃ (x_1 : ByteArray), gimp (k == k && r) (∀ (W : World), Loc w.heap.size [Blk.mk n_1 42 ([Value.int .i64 k] ++ arrI .u8 f 32 0 ++ [Value.string g, .int .i64 0, .bool false, .slice none 0 0, .string (ByteArray.mk #[]), .int .i64 0, .int .i64 0, .int .u8 0, .int .u8 0, .int .u8 0, .int .u8 0, .int .u8 0, .int .u8 0, .int .u8 0, .int .u8 0, .int .u8 0, .int .u8 0, .int .u8 0, .int .u8 0, .int .u8 0, .int .u8 0, .int .u8 0, .int .u8 0]) 2, Blk.mk n 42 ([Value.int .i64 k] ++ arrI .u8 f 32 0 ++ [Value.string g, .int .i64 0, .bool false, .slice none 0 0, .string (ByteArray.mk #[]), .int .i64 0, .int .i64 0, .int .u8 0, .int .u8 0, .int .u8 0, .int .u8 0, .int .u8 0, .int .u8 0,
 .int .u8 0, .int .u8 0, .int .u8 0, .int .u8 0, .int .u8 0, .int .u8 0, .int .u8 0, .int .u8 0, .int .u8 0, .int .u8 0]) 2] w W -> W.cell? (Addr.mk n_1 (0 + 33) none) = some (.string x_1)) /\ ∃ (x_2 : Int), gimp (k == k && r && x.toList == x_1.toList) (∀ (W : World), Loc w.heap.size [Blk.mk n_1 42 ([Value.int .i64 k] ++ arrI .u8 f 32 0 ++ [Value.string g, .int .i64 0, .bool false, .slice none 0 0, .string (ByteArray.mk #[]), .int .i64 0, .int .i64 0, .int .u8 0, .int .u8 0, .int .u8 0, .int .u8 0, .int .u8 0, .int .u8 0, .int .u8 0, .int .u8 0, .int .u8 0, .int .u8 0, .int .u8 0, .int .u8 0, .int .u8 0, .int .u8 0, .int .u8 0, .int .u8 0]) 2, Blk.mk n 42 ([Value.int .i64 k] ++ arrI .u8 f 32 0 ++ [Value.string g, .int .i64 0, .bool false, .slice none 0 0, .string (ByteArray.mk #[]), .int .i64 0, .int .i64 0, .int .u8 0, .int .u8 0, .int .u8 0, .int .u8 0,
 .int .u8 0, .int .u8 0, .int .u8 0, .int .u8 0, .int .u8 0, .int .u8 0, .int .u8 0, .int .u8 0, .int .u8 0, .int .u8 0, .int .u8 0, .int .u8 0]) 2] w W -> W.cell? (Addr.mk n (0 + 34) none) = some (.int .i64 x_2)) /\ ∃ (x_3 : Int), gimp (k == k && r && x.toList == x_1.toList) (∀ (W : World), Loc w.heap.size [Blk.mk n_1 42 ([Value.int .i64 k] ++ arrI .u8 f 32 0 ++ [Value.string g, .int .i64 0, .bool false, .slice none 0 0, .string (ByteArray.mk #[]), .int .i64 0, .int .i64 0, .int .u8 0, .int .u8 0, .int .u8 0, .int .u8 0, .int .u8 0, .int .u8 0, .int .u8 0, .int .u8 0, .int .u8 0, .int .u8 0, .int .u8 0, .int .u8 0, .int .u8 0, .int .u8 0, .int .u8 0, .int .u8 0]) 2, Blk.mk n 42 ([Value.int .i64 k] ++ arrI .u8 f 32 0 ++ [Value.string g, .int .i64 0, .bool false, .slice none 0 0, .string (ByteArray.mk #[]), .int .i64 0, .int .i64 0, .int .u8 0, .int .u8 0, .int .u8 0, .int .u8 0,
 .int .u8 0, .int .u8 0, .int .u8 0, .int .u8 0, .int .u8 0, .int .u8 0, .int .u8 0, .int .u8 0, .int .u8 0, .int .u8 0, .int .u8 0, .int .u8 0]) 2] w W -> W.cell? (Addr.mk n_1 (0 + 34) none) = some (.int .i64 x_3)) /\ ∃ (x_4 : Bool), gimp (k == k && r && x.toList == x_1.toList && x_2 == x_3) (∀ (W : World), Loc w.heap.size [Blk.mk n_1 42 ([Value.int .i64 k] ++ arrI .u8 f 32 0 ++ [Value.string g, .int .i64 0, .bool false, .slice none 0 0, .string (ByteArray.mk #[]), .int .i64 0, .int .i64 0, .int .u8 0, .int .u8 0, .int .u8 0, .int .u8 0, .int .u8 0, .int .u8 0, .int .u8 0, .int .u8 0, .int .u8 0, .int .u8 0, .int .u8 0, .int .u8 0, .int .u8 0, .int .u8 0, .int .u8 0, .int .u8 0]) 2, Blk.mk n 42 ([Value.int .i64 k] ++ arrI .u8 f 32 0 ++ [Value.string g, .int .i64 0, .bool false, .slice none 0 0, .string (ByteArray.mk #[]), .int .i64 0, .int .i64 0,
 .int .u8 0, .int .u8 0, .int .u8 0, .int .u8 0, .int .u8 0, .int .u8 0, .int .u8 0, .int .u8 0, .int .u8 0, .int .u8 0, .int .u8 0, .int .u8 0, .int .u8 0, .int .u8 0, .int .u8 0, .int .u8 0]) 2] w W -> W.cell? (Addr.mk n (0 + 35) none) = some (.bool x_4)) /\ ∃ (x_5 : Bool), gimp (k == k && r && x.toList == x_1.toList && x_2 == x_3) (∀ (W : World), Loc w.heap.size [Blk.mk n_1 42 ([Value.int .i64 k] ++ arrI .u8 f 32 0 ++ [Value.string g, .int .i64 0, .bool false, .slice none 0 0, .string (ByteArray.mk #[]), .int .i64 0, .int .i64 0, .int .u8 0, .int .u8 0, .int .u8 0, .int .u8 0, .int .u8 0, .int .u8 0, .int .u8 0, .int .u8 0, .int .u8 0, .int .u8 0, .int .u8 0, .int .u8 0, .int .u8 0, .int .u8 0, .int .u8 0, .int .u8 0]) 2, Blk.mk n 42 ([Value.int .i64 k] ++ arrI .u8 f 32 0 ++ [Value.string g, .int .i64 0, .bool false, .slice none 0 0,
 .string (ByteArray.mk #[]), .int .i64 0, .int .i64 0, .int .u8 0, .int .u8 0, .int .u8 0, .int .u8 0, .int .u8 0, .int .u8 0, .int .u8 0, .int .u8 0, .int .u8 0, .int .u8 0, .int .u8 0, .int .u8 0, .int .u8 0, .int .u8 0, .int .u8 0, .int .u8 0]) 2] w W -> W.cell? (Addr.mk n_1 (0 + 35) none) = some (.bool x_5)) /\ ∃ (p : Option Addr) (n_2 : Nat) (c : Nat), gimp (k == k && r && x.toList == x_1.toList && x_2 == x_3 && x_4 == x_5) (∀ (W : World), Loc w.heap.size [Blk.mk n_1 42 ([Value.int .i64 k] ++ arrI .u8 f 32 0 ++ [Value.string g, .int .i64 0, .bool false, .slice none 0 0, .string (ByteArray.mk #[]), .int .i64 0, .int .i64 0, .int .u8 0, .int .u8 0, .int .u8 0, .int .u8 0, .int .u8 0, .int .u8 0, .int .u8 0, .int .u8 0, .int .u8 0, .int .u8 0, .int .u8 0, .int .u8 0, .int .u8 0, .int .u8 0, .int .u8 0, .int .u8 0]) 2, Blk.mk n 42
 ([Value.int .i64 k] ++ arrI .u8 f 32 0 ++ [Value.string g, .int .i64 0, .bool false, .slice none 0 0, .string (ByteArray.mk #[]), .int .i64 0, .int .i64 0, .int .u8 0, .int .u8 0, .int .u8 0, .int .u8 0, .int .u8 0, .int .u8 0, .int .u8 0, .int .u8 0, .int .u8 0, .int .u8 0, .int .u8 0, .int .u8 0, .int .u8 0, .int .u8 0, .int .u8 0, .int .u8 0]) 2] w W -> W.cell? (Addr.mk n (0 + 36) none) = some (.slice p n_2 c)) /\ ∃ (p_1 : Option Addr) (n_3 : Nat) (c_1 : Nat), gimp (k == k && r && x.toList == x_1.toList && x_2 == x_3 && x_4 == x_5) (∀ (W : World), Loc w.heap.size [Blk.mk n_1 42 ([Value.int .i64 k] ++ arrI .u8 f 32 0 ++ [Value.string g, .int .i64 0, .bool false, .slice none 0 0, .string (ByteArray.mk #[]), .int .i64 0, .int .i64 0, .int .u8 0, .int .u8 0, .int .u8 0, .int .u8 0, .int .u8 0, .int .u8 0, .int .u8 0, .int .u8 0, .int .u8 0, .int .u8 0, .int .u8 0, .int .u8 0,
 .int .u8 0, .int .u8 0, .int .u8 0, .int .u8 0]) 2, Blk.mk n 42 ([Value.int .i64 k] ++ arrI .u8 f 32 0 ++ [Value.string g, .int .i64 0, .bool false, .slice none 0 0, .string (ByteArray.mk #[]), .int .i64 0, .int .i64 0, .int .u8 0, .int .u8 0, .int .u8 0, .int .u8 0, .int .u8 0, .int .u8 0, .int .u8 0, .int .u8 0, .int .u8 0, .int .u8 0, .int .u8 0, .int .u8 0, .int .u8 0, .int .u8 0, .int .u8 0, .int .u8 0]) 2] w W -> W.cell? (Addr.mk n_1 (0 + 36) none) = some (.slice p_1 n_3 c_1)) /\ ∀ (W : World), Loc w.heap.size [Blk.mk n_1 42 ([Value.int .i64 k] ++ arrI .u8 f 32 0 ++ [Value.string g, .int .i64 0, .bool false, .slice none 0 0, .string (ByteArray.mk #[]), .int .i64 0, .int .i64 0, .int .u8 0, .int .u8 0, .int .u8 0, .int .u8 0, .int .u8 0, .int .u8 0, .int .u8 0, .int .u8 0, .int .u8 0, .int .u8 0, .int .u8 0, .int .u8 0, .int .u8 0, .int .u8 0, .int .u8 0, .int .u8 0]) 2,
 Blk.mk n 42 ([Value.int .i64 k] ++ arrI .u8 f 32 0 ++ [Value.string g, .int .i64 0, .bool false, .slice none 0 0, .string (ByteArray.mk #[]), .int .i64 0, .int .i64 0, .int .u8 0, .int .u8 0, .int .u8 0, .int .u8 0, .int .u8 0, .int .u8 0, .int .u8 0, .int .u8 0, .int .u8 0, .int .u8 0, .int .u8 0, .int .u8 0, .int .u8 0, .int .u8 0, .int .u8 0, .int .u8 0]) 2] w W -> bsp (k == k && r && x.toList == x_1.toList && x_2 == x_3 && x_4 == x_5) (CallsS Tryz.prog 51 #[.slice p n_2 c, .slice p_1 n_3 c_1] W fun (e : Ending) (w' : World) => ∃ (x : Bool), e = .returned (.bool x) /\ KeptL [n_1, n] W w' /\ ∃ (x_6 : ByteArray), gimp (true && x) (w'.cell? (Addr.mk n (0 + 37) none) = some (.string x_6)) /\ ∃ (x_7 : ByteArray), gimp (true && x) (w'.cell? (Addr.mk n_1 (0 + 37) none) = some (.string x_7)) /\ ∃ (x_8 : Int), gimp (true && x && x_6.toList == x_7.toList)
 (w'.cell? (Addr.mk n (0 + 38) none) = some (.int .i64 x_8)) /\ ∃ (x_9 : Int), gimp (true && x && x_6.toList == x_7.toList) (w'.cell? (Addr.mk n_1 (0 + 38) none) = some (.int .i64 x_9)) /\ ∃ (x_10 : Int) (f : Nat -> Int), gimp (true && x && x_6.toList == x_7.toList && x_8 == x_9) (AtL w' n (0 + 39) ([Value.int .i64 x_10] ++ arrI .u8 f 16 0)) /\ ∃ (x_11 : Int) (f_3 : Nat -> Int), gimp (true && x && x_6.toList == x_7.toList && x_8 == x_9) (AtL w' n_1 (0 + 39) ([Value.int .i64 x_11] ++ arrI .u8 f_3 16 0)) /\ ∃ (r : Bool), gimp (true && x && x_6.toList == x_7.toList && x_8 == x_9) (EqP Tryz.prog 40 (.agg ([Value.int .i64 x_10] ++ arrI .u8 f 16 0).toArray) (.agg ([Value.int .i64 x_11] ++ arrI .u8 f_3 16 0).toArray) r) /\ R (.returned (.bool (true && x && x_6.toList == x_7.toList && x_8 == x_9 && r))) w') (KeptL [n_1, n] W W /\ ∃ (x : ByteArray), True /\ ∃ (x_6 : ByteArray), True /\
 ∃ (x_7 : Int), True /\ ∃ (x_8 : Int), True /\ ∃ (x_9 : Int) (f : Nat -> Int), True /\ ∃ (x_10 : Int) (f : Nat -> Int), True /\ ∃ (r : Bool), True /\ R (.returned (.bool (false && x.toList == x_6.toList && x_7 == x_8 && r))) W)
theorem vc_ceq (k : Int) (f : Nat -> Int) (g : ByteArray) (w : World) (R : Ending -> World -> Prop) (h : VC_ceq k f g w R) : Calls Tryz.prog 22 ([Value.agg ([Value.int .i64 k] ++ (arrI .u8 f 32 0 ++ ([Value.string g, .int .i64 0, .bool false, .slice none 0 0, .string { data := #[] }, .int .i64 0, .int .i64 0] ++ arrI .u8 (fun x => 0) 16 0))).toArray, .agg ([Value.int .i64 k] ++ (arrI .u8 f 32 0 ++ ([Value.string g, .int .i64 0, .bool false, .slice none 0 0, .string { data := #[] }, .int .i64 0, .int .i64 0] ++ arrI .u8 (fun x => 0) 16 0))).toArray] : List Value).toArray w R :=
 calls_of_exec2' (loops := []) (tails := []) (joins := []) (boxes := []) (rngs := []) (c := Tryz.f22.body.getD .skip) pur1_ok Tryz.func22 (by kernel_rfl) (by kernel_rfl) h
end Go.Proofs.YtfacflbmlfbeeaaGreatDoor
namespace Go.Proofs.YtfacflbmlfbeeaaGreatDoor
set_option maxRecDepth 100000
set_option linter.unusedVariables false
end Go.Proofs.YtfacflbmlfbeeaaGreatDoor
namespace Go.Proofs.YtfacflbmlfbeeaaGreatDoor
open Go.RowKit Go.Sort Go.Maps
set_option maxRecDepth 100000 in
theorem pubEq : EqP Tryz.prog 40 (.agg (([.int .i64 0] : List Value) ++ arrI .u8 (fun _ => 0) 16 0).toArray) (.agg (([.int .i64 0] : List Value) ++ arrI .u8 (fun _ => 0) 16 0).toArray) true := ⟨fun w => by kernel_rfl, by kernel_rfl, _, _, rfl, rfl⟩
set_option maxRecDepth 100000 in
set_option maxHeartbeats 4000000 in
theorem ceq_any (k : Int) (f : Nat -> Int) (hf : BY f) (g : ByteArray) (w : World) : Calls Tryz.prog 22 #[.agg (apC k f g).toArray, .agg (apC k f g).toArray] w fun e w' => e = .returned (.bool true) /\ K0 w w' := by
 refine vc_ceq k f g w _ (fun n n1 => ?_)
 refine ⟨f, gimp_intro fun _ W hW => AtL_block (hW.cells 1 rfl) rfl, f, gimp_intro fun _ W hW => AtL_block (hW.cells 0 rfl) rfl, _, gimp_intro fun _ => idEqF hf hf, g, gimp_intro fun _ W hW => cell_at (hW.cells 1 rfl) rfl, g, gimp_intro fun _ W hW => cell_at (hW.cells 0 rfl) rfl, 0, gimp_intro fun _ W hW => cell_at (hW.cells 1 rfl) rfl, 0, gimp_intro fun _ W hW => cell_at (hW.cells 0 rfl) rfl, false, gimp_intro fun _ W hW => cell_at (hW.cells 1 rfl) rfl, false, gimp_intro fun _ W hW => cell_at (hW.cells 0 rfl) rfl, none, 0, 0, gimp_intro fun _ W hW => cell_at (hW.cells 1 rfl) rfl, none, 0, 0, gimp_intro fun _ W hW => cell_at (hW.cells 0 rfl) rfl, fun W hW => bsp_intro (fun _ => ?_) (fun h => by simp at h)⟩
 have kW : K0 w W := hW.kk rfl
 have c0 := hW.cells 0 rfl
 have c1 := hW.cells 1 rfl
 clear hW
 refine ⟨(aequal_any [] [] none 0 none 0 W RowA.nil RowA.nil (fun m h => by cases h) (fun m h => by cases h) (by decide)).mono fun e w1 ⟨he, k1⟩ => ⟨_, he, .of_k0 k1, ?_⟩⟩
 have d0 := k1.blk c0 (fun h => h)
 have d1 := k1.blk c1 (fun h => h)
 refine ⟨⟨#[]⟩, gimp_intro fun _ => cell_at d1 rfl, ⟨#[]⟩, gimp_intro fun _ => cell_at d0 rfl, 0, gimp_intro fun _ => cell_at d1 rfl, 0, gimp_intro fun _ => cell_at d0 rfl, 0, fun _ => 0, gimp_intro fun _ => AtL_block d1 rfl, 0, fun _ => 0, gimp_intro fun _ => AtL_block d0 rfl, true, gimp_intro fun _ => pubEq, ?_, kW.trans k1⟩
 simp
structure Q1 (q : Qu) (k : Ky) (e : En) : Prop where
 ok : q.OK
 ln : q.es.length <= 10000
 en : aget q.es k = some e
 md : ∀ c, c = 1 \/ c = 2 -> isMB (q.md kG) (auN c) = true
end Go.Proofs.YtfacflbmlfbeeaaGreatDoor
namespace Go.Proofs.YtfacflbmlfbeeaaGreatDoor
open Go.RowKit Go.Sort Go.Maps
section
variable {w0 w w' : World} {b mb eb m : Nat} {q : Qu} {M : Mo} {P : Pl}
theorem SW.off (h : SW w0 w b mb eb m q M P) {N : Nat -> Prop} {t : TypeId} (hk : Kp N w w') (hN : ∀ k, N k -> w0.heap.size <= k /\ ∃ c f, w.heap[k]? = some (.cells c t f)) (ht : (t == 57 || t == 93 || t == 91 || t == 45) = false) (hq : (t == 98) = false) : SW w0 w' b mb eb m q M P := by
 have no : ∀ {k : Nat} {c : Array Value} {t' : TypeId} {f : Nat × Nat}, w.heap[k]? = some (.cells c t' f) -> (t == t') = false -> ¬ N k := fun hc hne hn => by
  obtain ⟨_, c', f', hc'⟩ := hN _ hn
  rw [hc] at hc'
  cases hc'
  simp at hne
 have nm : ∀ {k : Nat} {es : Array MapEntry} {c : Nat}, w.heap[k]? = some (.map es c) -> ¬ N k := fun hc hn => by
  obtain ⟨_, c', f', hc'⟩ := hN _ hn
  rw [hc] at hc'
  cases hc'
 have ta : (t == 45) = false := by
  simp only [Bool.or_eq_false_iff] at ht
  exact ht.2
 have n1 : ¬ N mb := by obtain ⟨es, c', hb, _⟩ := h.mq.mm.blk; exact nm hb
 have n2 : ¬ N eb := by obtain ⟨es, c', hb, _⟩ := h.mq.me.blk; exact nm hb
 refine ⟨⟨hk.blk h.mq.st (no h.mq.st hq), h.mq.mm.kp hk n1, h.mq.me.kp hk n2, fun g x hx => (h.mq.row g x hx).ty (h.qs g x hx) hk (fun k c f hc => no hc ta), h.mq.ne, h.mq.nz⟩, fun g x hx => (h.qs g x hx).kp hk (fun k c f hc => no hc ta), h.mr.off hk (fun k hn => (hN k hn).2) ht, h.k.fresh hk (fun i hi hn => ?_), h.gb, h.gm, h.ge⟩
 have := (hN i hn).1
 omega
end
def KQ (w w' : World) : Prop := w.heap.size <= w'.heap.size /\ ∀ (k : Nat) (c : Array Value) (t : TypeId) (f : Nat × Nat), w.heap[k]? = some (.cells c t f) -> (t == 98) = false -> w'.heap[k]? = some (.cells c t f)
theorem Mq.kq {w w' : World} {b mb eb : Nat} {q : Qu} (h : Mq w b mb eb q) (hk : Kp (QB b mb eb) w w') : KQ w w' := ⟨hk.size, fun _ _ _ _ hc ht => hk.blk hc (h.not_ty hc ht)⟩
end Go.Proofs.YtfacflbmlfbeeaaGreatDoor
namespace Go.Proofs.YtfacflbmlfbeeaaGreatDoor
open Go.RowKit Go.Sort Go.Maps
def nQM (t : TypeId) : Bool := t == 98 || t == 57 || t == 93 || t == 91
def KD (w w' : World) : Prop := w.heap.size <= w'.heap.size /\ ∀ (k : Nat) (c : Array Value) (t : TypeId) (f : Nat × Nat), w.heap[k]? = some (.cells c t f) -> nQM t = false -> w'.heap[k]? = some (.cells c t f)
section
variable {w w1 w2 w' : World} {b mb eb B : Nat} {q : Qu}
theorem KD.refl (w : World) : KD w w := ⟨Nat.le_refl _, fun _ _ _ _ h _ => h⟩
theorem KD.trans (h : KD w w1) (k : KD w1 w2) : KD w w2 := ⟨Nat.le_trans h.1 k.1, fun i c t f hc ht => k.2 i c t f (h.2 i c t f hc ht) ht⟩
theorem KD.k0 (h : K0 w w') : KD w w' := ⟨h.size, fun _ _ _ _ hc _ => h.blk hc (fun h => h)⟩
theorem Mq.kd (h : Mq w b mb eb q) (hk : Kp (QB b mb eb) w w') : KD w w' := ⟨hk.size, fun _ _ _ _ hc ht => hk.blk hc (h.not_ty hc (by
 unfold nQM at ht
 simp only [Bool.or_eq_false_iff] at ht
 exact ht.1.1.1))⟩
theorem KD.mf (hk : Kp (MF w B) w w') : KD w w' := ⟨hk.size, fun _ _ _ _ hc ht => hk.blk hc (mf_no hc (by
 unfold nQM at ht
 simp only [Bool.or_eq_false_iff] at ht ⊢
 exact ⟨⟨ht.1.1.2, ht.1.2⟩, ht.2⟩))⟩
theorem KD.kept (h : KD w w') {ns : List Nat} (hn : ∀ z ∈ ns, ∃ c t f, w.heap[z]? = some (.cells c t f) /\ nQM t = false) : KeptL ns w w' := ⟨h.1, fun z hz _ => by
 obtain ⟨c, t, f, hc, ht⟩ := hn z hz
 rw [hc, h.2 z c t f hc ht]⟩
theorem KD.own (h : KD w w') {base L n c : Nat} {p : Option Addr} {e : TypeId} {xs : List Value} (ho : w.ownsRow base e L (.slice p n c) n xs) (he : nQM e = false) : w'.ownsRow base e L (.slice p n c) n xs := by
 refine ⟨ho.1, ?_⟩
 rcases ho.2 with h1 | ⟨g, cap, cur, hv, hb, hg, h4⟩
 ·exact .inl h1
 ·exact .inr ⟨g, cap, cur, hv, hb, h.2 g _ _ _ hg he, h4⟩
end
def DS39 (n n1 n2 : Nat) (C : List Value) (i a : Int) (w : World) : Prop := w.heap[n]? = some (.cells C.toArray 66 (0, 0)) /\ w.heap[n1]? = some (.cells (arrI .u8 (idN i) 32 0).toArray 32 (0, 0)) /\ w.heap[n2]? = some (.cells (arrI .u8 (auN a) 16 0).toArray 45 (0, 0))
theorem DS39.kd {n n1 n2 : Nat} {C : List Value} {i a : Int} {w w' : World} (h : DS39 n n1 n2 C i a w) (k : KD w w') : DS39 n n1 n2 C i a w' := ⟨k.2 _ _ _ _ h.1 rfl, k.2 _ _ _ _ h.2.1 rfl, k.2 _ _ _ _ h.2.2 rfl⟩
theorem putN {w w1 : World} {n N : Nat} {c : Array Value} {t : TypeId} {l : List Value} (h : w.heap[n]? = some (.cells c t (0, 0))) (hc : c.size = N) (hl : l.length = N) (hp : PutB w n 0 l w1) : w1.heap[n]? = some (.cells l.toArray t (0, 0)) := by
 have h1 := hp.block h
 rw [h1]
 have e : putL c.toList 0 l = l := by
  apply List.ext_getElem?
  intro t
  rcases Nat.lt_or_ge t N with ht | ht
  ·rw [putL_get _ _ _ _ (by simp [hc, hl]), if_pos (by omega), Nat.sub_zero]
  ·rw [List.getElem?_eq_none (by rw [putL_len]; simp [hc]; omega), List.getElem?_eq_none (by omega)]
 rw [e]
theorem dofin {W1 cur : World} {n n1 n2 : Nat} {zX zY : Array Value} {f f' : Nat -> Int} {J : World -> Prop} (k : K0 W1 cur) (g1 : W1.heap.size <= n1) (g2 : W1.heap.size <= n2)
  (cX : cur.heap[n1]? = some (.cells zX 32 (0, 0))) (hX : zX.size = 32) (cY : cur.heap[n2]? = some (.cells zY 45 (0, 0))) (hY : zY.size = 16)
  (hJ : ∀ w2, K0 W1 w2 -> w2.heap[n1]? = some (.cells (arrI .u8 f 32 0).toArray 32 (0, 0)) -> w2.heap[n2]? = some (.cells (arrI .u8 f' 16 0).toArray 45 (0, 0)) -> J w2) :
  WrL cur n1 0 32 /\ ∀ w1, PutB cur n1 0 (arrI .u8 f 32 0) w1 -> WrL w1 n2 0 16 /\ ∀ w2, PutB w1 n2 0 (arrI .u8 f' 16 0) w2 -> KeptL [n] W1 w2 /\ J w2 := by
 have hne : n2 ≠ n1 := fun e => by
  rw [e, cX] at cY
  have := (Obj.cells.inj (Option.some.inj cY)).2.1
  exact absurd this (by decide)
 refine ⟨WrL_block cX (by omega), fun w1 p1 => ?_⟩
 have dX := putN cX hX rfl p1
 have dY := p1.kp.blk cY (fun e => hne e)
 refine ⟨WrL_block dY (by omega), fun w2 p2 => ?_⟩
 have k1 : K0 W1 w1 := k.fresh p1.kp (fun j hj e => by have e : j = n1 := e; omega)
 have k2 : K0 W1 w2 := k1.fresh p2.kp (fun j hj e => by have e : j = n2 := e; omega)
 exact ⟨.of_k0 k2, hJ w2 k2 (p2.kp.blk dX (fun e => hne e.symm)) (putN dY hY rfl p2)⟩
theorem sbz_ok : sbz.OK := ⟨by0, fun _ _ => rfl, by0, fun _ _ => rfl, by decide, by decide, by decide, ⟨by decide, by decide⟩, ⟨by decide, by decide⟩, ⟨by decide, by decide⟩⟩
theorem xclS_ok {M : Mo} (h : M.OK) (g : ByteArray) (a : Nat -> Int) (now : Int) : (xclS M g a now).OK := by
 unfold xclS
 split
 ·cases hf : M.es.find? (clP g (auI a) now) with
  | none => exact sbz_ok
  | some y => exact (h.es y (List.mem_of_find?_eq_some hf)).1.s
 ·exact sbz_ok
theorem xlpL_ok {M : Mo} (h : M.OK) (now : Int) : ∀ x ∈ xlpL M now, x.OK := fun x hx => by
 unfold xlpL at hx
 split at hx
 ·rename_i hm
  obtain ⟨y, hy, rfl⟩ := List.mem_map.1 hx
  have o := (h.es y (List.mem_filter.1 hy).1).1.s
  exact ⟨o.id, o.idz, by0, fun _ _ => rfl, o.g, o.tx, by show (⟨#[]⟩ : ByteArray).size <= _; decide, o.r, ⟨by show _ <= (3 : Int); decide, by show (3 : Int) <= _; decide⟩, i64s (minB_iff.1 hm)⟩
 ·cases hx
theorem xclM_no {M : Mo} {g : ByteArray} {a : Nat -> Int} {now : Int} (h : xclE M g a now ≠ 0) : xclM M g a now = M /\ xclS M g a now = sbz := by
 unfold xclM xclS
 rw [if_neg h, if_neg h]; exact ⟨rfl, rfl⟩
theorem txO_eq (t : ByteArray) : t.extract 0 (if (300 : Int) < (t.size : Int) then 300 else (t.size : Int)).toNat = txO t := by
 unfold txO
 congr 1
 split <;> omega
theorem txO_sz (t : ByteArray) : (txO t).size <= 300 := by unfold txO; rw [ByteArray.size_extract]; omega
theorem moL_len {i a : Int} : (moL i a).length = (a.tmod 12).toNat := by unfold moL; simp
def moT (i a : Int) (j : Nat) : List (Nat -> Int) := (List.range j).map fun k : Nat => auK i a (k : Int)
theorem moT_succ (i a : Int) (j : Nat) : moT i a (j + 1) = moT i a j ++ [auK i a (j : Int)] := by unfold moT; rw [List.range_succ, List.map_append]; rfl
end Go.Proofs.YtfacflbmlfbeeaaGreatDoor
namespace Go.Proofs.YtfacflbmlfbeeaaGreatDoor
set_option maxRecDepth 100000
set_option linter.unusedVariables false
def VC_ldo (b : Nat) (m : Nat) (k : Int) (i : Int) (g : Int) (a : Int) (now : Int) (t : ByteArray) (w : World) (R : Ending -> World -> Prop) : Prop := ∀ (n : Nat) (W : World), Loc w.heap.size [Blk.mk n 66 [Value.int .u8 k, .int .u8 i, .int .u8 g, .int .u8 a, .int .i64 now, .string t] 2] w W -> ∃ (J : List Value -> World -> Prop), (∀ (W_1 : World), Loc w.heap.size [Blk.mk n 66 [Value.int .u8 k, .int .u8 i, .int .u8 g, .int .u8 a, .int .i64 now, .string t] 0] W W_1 -> ∃ (S : World -> Prop), S W_1 /\ ∃ (x : Int), (∀ (w' : World), S w' -> w'.cell? (Addr.mk n (0 + 1) none) = some (.int .u8 x)) /\ ∃ (x_1 : Int), (∀ (w' : World), S w' -> w'.cell? (Addr.mk n (0 + 2) none) = some (.int .u8 x_1)) /\ ∃ (x_2 : Int), (∀ (w' : World), S w' -> w'.cell? (Addr.mk n (0 + 3) none) = some (.int .u8 x_2)) /\ (CallsS Tryz.prog 29 #[.int .u8 x] W_1 fun (e : Ending) (w' : World) => ∃ (f : Nat -> Int), e =
 .returned (.agg (arrI .u8 f 32 0).toArray) /\ S w' /\ (CallsS Tryz.prog 30 #[.int .u8 x_1] w' fun (e : Ending) (w' : World) => ∃ (x : ByteArray), e = .returned (.string x) /\ S w' /\ (CallsS Tryz.prog 20 #[.int .u8 x_2] w' fun (e : Ending) (w' : World) => ∃ (f_1 : Nat -> Int), e = .returned (.agg (arrI .u8 f_1 16 0).toArray) /\ (∀ (n_1 : Nat) (w1 : World), NewB w' (Obj.cells #[.int .u8 0, .int .u8 0, .int .u8 0, .int .u8 0, .int .u8 0, .int .u8 0, .int .u8 0, .int .u8 0, .int .u8 0, .int .u8 0, .int .u8 0, .int .u8 0, .int .u8 0, .int .u8 0, .int .u8 0, .int .u8 0, .int .u8 0, .int .u8 0, .int .u8 0, .int .u8 0, .int .u8 0, .int .u8 0, .int .u8 0, .int .u8 0, .int .u8 0, .int .u8 0, .int .u8 0, .int .u8 0, .int .u8 0, .int .u8 0, .int .u8 0, .int .u8 0] 32) n_1 w1 -> S w1 /\ ∀ (n_2 : Nat) (w1_1 : World), NewB w1 (Obj.cells #[.int .u8 0, .int .u8 0, .int .u8 0,
 .int .u8 0, .int .u8 0, .int .u8 0, .int .u8 0, .int .u8 0, .int .u8 0, .int .u8 0, .int .u8 0, .int .u8 0, .int .u8 0, .int .u8 0, .int .u8 0, .int .u8 0] 45) n_2 w1_1 -> S w1_1 /\ WrL w1_1 n_1 0 32 /\ ∀ (w1 : World), PutB w1_1 n_1 0 (arrI .u8 f 32 0) w1 -> WrL w1 n_2 0 16 /\ ∀ (w1_2 : World), PutB w1 n_2 0 (arrI .u8 f_1 16 0) w1_2 -> KeptL [n] W_1 w1_2 /\ J [Value.string x, .pointer (some (Addr.mk n_1 0 none)), .pointer (some (Addr.mk n_2 0 none))] w1_2) /\ ∀ (n_1 : Nat) (w1 : World), NewB w' (Obj.cells #[.int .u8 0, .int .u8 0, .int .u8 0, .int .u8 0, .int .u8 0, .int .u8 0, .int .u8 0, .int .u8 0, .int .u8 0, .int .u8 0, .int .u8 0, .int .u8 0, .int .u8 0, .int .u8 0, .int .u8 0, .int .u8 0] 45) n_1 w1 -> S w1 /\ ∀ (n_2 : Nat) (w1_1 : World), NewB w1 (Obj.cells #[.int .u8 0, .int .u8 0, .int .u8 0, .int .u8 0, .int .u8 0, .int .u8 0, .int .u8 0, .int .u8 0, .int .u8 0,
 .int .u8 0, .int .u8 0, .int .u8 0, .int .u8 0, .int .u8 0, .int .u8 0, .int .u8 0, .int .u8 0, .int .u8 0, .int .u8 0, .int .u8 0, .int .u8 0, .int .u8 0, .int .u8 0, .int .u8 0, .int .u8 0, .int .u8 0, .int .u8 0, .int .u8 0, .int .u8 0, .int .u8 0, .int .u8 0, .int .u8 0] 32) n_2 w1_1 -> S w1_1 /\ WrL w1_1 n_2 0 32 /\ ∀ (w1 : World), PutB w1_1 n_2 0 (arrI .u8 f 32 0) w1 -> WrL w1 n_1 0 16 /\ ∀ (w1_2 : World), PutB w1 n_1 0 (arrI .u8 f_1 16 0) w1_2 -> KeptL [n] W_1 w1_2 /\ J [Value.string x, .pointer (some (Addr.mk n_2 0 none)), .pointer (some (Addr.mk n_1 0 none))] w1_2) /\ (∀ (n_1 : Nat) (w1 : World), NewB w' (Obj.cells #[.int .u8 0, .int .u8 0, .int .u8 0, .int .u8 0, .int .u8 0, .int .u8 0, .int .u8 0, .int .u8 0, .int .u8 0, .int .u8 0, .int .u8 0, .int .u8 0, .int .u8 0, .int .u8 0, .int .u8 0, .int .u8 0, .int .u8 0, .int .u8 0, .int .u8 0, .int .u8 0, .int .u8 0,
 .int .u8 0, .int .u8 0, .int .u8 0, .int .u8 0, .int .u8 0, .int .u8 0, .int .u8 0, .int .u8 0, .int .u8 0, .int .u8 0, .int .u8 0] 32) n_1 w1 -> S w1 /\ (CallsS Tryz.prog 20 #[.int .u8 x_2] w1 fun (e : Ending) (w' : World) => ∃ (f_1 : Nat -> Int), e = .returned (.agg (arrI .u8 f_1 16 0).toArray) /\ ∀ (n_2 : Nat) (w1 : World), NewB w' (Obj.cells #[.int .u8 0, .int .u8 0, .int .u8 0, .int .u8 0, .int .u8 0, .int .u8 0, .int .u8 0, .int .u8 0, .int .u8 0, .int .u8 0, .int .u8 0, .int .u8 0, .int .u8 0, .int .u8 0, .int .u8 0, .int .u8 0] 45) n_2 w1 -> S w1 /\ WrL w1 n_1 0 32 /\ ∀ (w1_1 : World), PutB w1 n_1 0 (arrI .u8 f 32 0) w1_1 -> WrL w1_1 n_2 0 16 /\ ∀ (w1 : World), PutB w1_1 n_2 0 (arrI .u8 f_1 16 0) w1 -> KeptL [n] W_1 w1 /\ J [Value.string x, .pointer (some (Addr.mk n_1 0 none)), .pointer (some (Addr.mk n_2 0 none))] w1) /\ ∀ (n_2 : Nat) (w1_1 : World), NewB w1 (Obj.cells
 #[.int .u8 0, .int .u8 0, .int .u8 0, .int .u8 0, .int .u8 0, .int .u8 0, .int .u8 0, .int .u8 0, .int .u8 0, .int .u8 0, .int .u8 0, .int .u8 0, .int .u8 0, .int .u8 0, .int .u8 0, .int .u8 0] 45) n_2 w1_1 -> S w1_1 /\ CallsS Tryz.prog 20 #[.int .u8 x_2] w1_1 fun (e : Ending) (w' : World) => ∃ (f_1 : Nat -> Int), e = .returned (.agg (arrI .u8 f_1 16 0).toArray) /\ WrL w' n_1 0 32 /\ ∀ (w1 : World), PutB w' n_1 0 (arrI .u8 f 32 0) w1 -> WrL w1 n_2 0 16 /\ ∀ (w1_2 : World), PutB w1 n_2 0 (arrI .u8 f_1 16 0) w1_2 -> KeptL [n] W_1 w1_2 /\ J [Value.string x, .pointer (some (Addr.mk n_1 0 none)), .pointer (some (Addr.mk n_2 0 none))] w1_2) /\ ∀ (n_1 : Nat) (w1 : World), NewB w' (Obj.cells #[.int .u8 0, .int .u8 0, .int .u8 0, .int .u8 0, .int .u8 0, .int .u8 0, .int .u8 0, .int .u8 0, .int .u8 0, .int .u8 0, .int .u8 0, .int .u8 0, .int .u8 0, .int .u8 0, .int .u8 0, .int .u8 0] 45)
 n_1 w1 -> S w1 /\ (CallsS Tryz.prog 20 #[.int .u8 x_2] w1 fun (e : Ending) (w' : World) => ∃ (f_1 : Nat -> Int), e = .returned (.agg (arrI .u8 f_1 16 0).toArray) /\ ∀ (n_2 : Nat) (w1 : World), NewB w' (Obj.cells #[.int .u8 0, .int .u8 0, .int .u8 0, .int .u8 0, .int .u8 0, .int .u8 0, .int .u8 0, .int .u8 0, .int .u8 0, .int .u8 0, .int .u8 0, .int .u8 0, .int .u8 0, .int .u8 0, .int .u8 0, .int .u8 0, .int .u8 0, .int .u8 0, .int .u8 0, .int .u8 0, .int .u8 0, .int .u8 0, .int .u8 0, .int .u8 0, .int .u8 0, .int .u8 0, .int .u8 0, .int .u8 0, .int .u8 0, .int .u8 0, .int .u8 0, .int .u8 0] 32) n_2 w1 -> S w1 /\ WrL w1 n_2 0 32 /\ ∀ (w1_1 : World), PutB w1 n_2 0 (arrI .u8 f 32 0) w1_1 -> WrL w1_1 n_1 0 16 /\ ∀ (w1 : World), PutB w1_1 n_1 0 (arrI .u8 f_1 16 0) w1 -> KeptL [n] W_1 w1 /\ J [Value.string x, .pointer (some (Addr.mk n_2 0 none)), .pointer (some (Addr.mk n_1 0 none))] w1) /\
 ∀ (n_2 : Nat) (w1_1 : World), NewB w1 (Obj.cells #[.int .u8 0, .int .u8 0, .int .u8 0, .int .u8 0, .int .u8 0, .int .u8 0, .int .u8 0, .int .u8 0, .int .u8 0, .int .u8 0, .int .u8 0, .int .u8 0, .int .u8 0, .int .u8 0, .int .u8 0, .int .u8 0, .int .u8 0, .int .u8 0, .int .u8 0, .int .u8 0, .int .u8 0, .int .u8 0, .int .u8 0, .int .u8 0, .int .u8 0, .int .u8 0, .int .u8 0, .int .u8 0, .int .u8 0, .int .u8 0, .int .u8 0, .int .u8 0] 32) n_2 w1_1 -> S w1_1 /\ CallsS Tryz.prog 20 #[.int .u8 x_2] w1_1 fun (e : Ending) (w' : World) => ∃ (f_1 : Nat -> Int), e = .returned (.agg (arrI .u8 f_1 16 0).toArray) /\ WrL w' n_2 0 32 /\ ∀ (w1 : World), PutB w' n_2 0 (arrI .u8 f 32 0) w1 -> WrL w1 n_1 0 16 /\ ∀ (w1_2 : World), PutB w1 n_1 0 (arrI .u8 f_1 16 0) w1_2 -> KeptL [n] W_1 w1_2 /\ J [Value.string x, .pointer (some (Addr.mk n_2 0 none)), .pointer (some (Addr.mk n_1 0 none))] w1_2) /\
 (∀ (n_1 : Nat) (w1 : World), NewB w' (Obj.cells #[.int .u8 0, .int .u8 0, .int .u8 0, .int .u8 0, .int .u8 0, .int .u8 0, .int .u8 0, .int .u8 0, .int .u8 0, .int .u8 0, .int .u8 0, .int .u8 0, .int .u8 0, .int .u8 0, .int .u8 0, .int .u8 0, .int .u8 0, .int .u8 0, .int .u8 0, .int .u8 0, .int .u8 0, .int .u8 0, .int .u8 0, .int .u8 0, .int .u8 0, .int .u8 0, .int .u8 0, .int .u8 0, .int .u8 0, .int .u8 0, .int .u8 0, .int .u8 0] 32) n_1 w1 -> S w1 /\ (CallsS Tryz.prog 30 #[.int .u8 x_1] w1 fun (e : Ending) (w' : World) => ∃ (x : ByteArray), e = .returned (.string x) /\ S w' /\ (CallsS Tryz.prog 20 #[.int .u8 x_2] w' fun (e : Ending) (w' : World) => ∃ (f_1 : Nat -> Int), e = .returned (.agg (arrI .u8 f_1 16 0).toArray) /\ ∀ (n_2 : Nat) (w1 : World), NewB w' (Obj.cells #[.int .u8 0, .int .u8 0, .int .u8 0, .int .u8 0, .int .u8 0, .int .u8 0, .int .u8 0, .int .u8 0, .int .u8 0,
 .int .u8 0, .int .u8 0, .int .u8 0, .int .u8 0, .int .u8 0, .int .u8 0, .int .u8 0] 45) n_2 w1 -> S w1 /\ WrL w1 n_1 0 32 /\ ∀ (w1_1 : World), PutB w1 n_1 0 (arrI .u8 f 32 0) w1_1 -> WrL w1_1 n_2 0 16 /\ ∀ (w1 : World), PutB w1_1 n_2 0 (arrI .u8 f_1 16 0) w1 -> KeptL [n] W_1 w1 /\ J [Value.string x, .pointer (some (Addr.mk n_1 0 none)), .pointer (some (Addr.mk n_2 0 none))] w1) /\ ∀ (n_2 : Nat) (w1 : World), NewB w' (Obj.cells #[.int .u8 0, .int .u8 0, .int .u8 0, .int .u8 0, .int .u8 0, .int .u8 0, .int .u8 0, .int .u8 0, .int .u8 0, .int .u8 0, .int .u8 0, .int .u8 0, .int .u8 0, .int .u8 0, .int .u8 0, .int .u8 0] 45) n_2 w1 -> S w1 /\ CallsS Tryz.prog 20 #[.int .u8 x_2] w1 fun (e : Ending) (w' : World) => ∃ (f_1 : Nat -> Int), e = .returned (.agg (arrI .u8 f_1 16 0).toArray) /\ WrL w' n_1 0 32 /\ ∀ (w1 : World), PutB w' n_1 0 (arrI .u8 f 32 0) w1 -> WrL w1 n_2 0 16 /\
 ∀ (w1_1 : World), PutB w1 n_2 0 (arrI .u8 f_1 16 0) w1_1 -> KeptL [n] W_1 w1_1 /\ J [Value.string x, .pointer (some (Addr.mk n_1 0 none)), .pointer (some (Addr.mk n_2 0 none))] w1_1) /\ ∀ (n_2 : Nat) (w1_1 : World), NewB w1 (Obj.cells #[.int .u8 0, .int .u8 0, .int .u8 0, .int .u8 0, .int .u8 0, .int .u8 0, .int .u8 0, .int .u8 0, .int .u8 0, .int .u8 0, .int .u8 0, .int .u8 0, .int .u8 0, .int .u8 0, .int .u8 0, .int .u8 0] 45) n_2 w1_1 -> S w1_1 /\ CallsS Tryz.prog 30 #[.int .u8 x_1] w1_1 fun (e : Ending) (w' : World) => ∃ (x : ByteArray), e = .returned (.string x) /\ S w' /\ CallsS Tryz.prog 20 #[.int .u8 x_2] w' fun (e : Ending) (w' : World) => ∃ (f_1 : Nat -> Int), e = .returned (.agg (arrI .u8 f_1 16 0).toArray) /\ WrL w' n_1 0 32 /\ ∀ (w1 : World), PutB w' n_1 0 (arrI .u8 f 32 0) w1 -> WrL w1 n_2 0 16 /\ ∀ (w1_2 : World), PutB w1 n_2 0 (arrI .u8 f_1 16 0) w1_2 ->
 KeptL [n] W_1 w1_2 /\ J [Value.string x, .pointer (some (Addr.mk n_1 0 none)), .pointer (some (Addr.mk n_2 0 none))] w1_2) /\ ∀ (n_1 : Nat) (w1 : World), NewB w' (Obj.cells #[.int .u8 0, .int .u8 0, .int .u8 0, .int .u8 0, .int .u8 0, .int .u8 0, .int .u8 0, .int .u8 0, .int .u8 0, .int .u8 0, .int .u8 0, .int .u8 0, .int .u8 0, .int .u8 0, .int .u8 0, .int .u8 0] 45) n_1 w1 -> S w1 /\ (CallsS Tryz.prog 30 #[.int .u8 x_1] w1 fun (e : Ending) (w' : World) => ∃ (x : ByteArray), e = .returned (.string x) /\ S w' /\ (CallsS Tryz.prog 20 #[.int .u8 x_2] w' fun (e : Ending) (w' : World) => ∃ (f_1 : Nat -> Int), e = .returned (.agg (arrI .u8 f_1 16 0).toArray) /\ ∀ (n_2 : Nat) (w1 : World), NewB w' (Obj.cells #[.int .u8 0, .int .u8 0, .int .u8 0, .int .u8 0, .int .u8 0, .int .u8 0, .int .u8 0, .int .u8 0, .int .u8 0, .int .u8 0, .int .u8 0, .int .u8 0, .int .u8 0, .int .u8 0, .int .u8 0,
 .int .u8 0, .int .u8 0, .int .u8 0, .int .u8 0, .int .u8 0, .int .u8 0, .int .u8 0, .int .u8 0, .int .u8 0, .int .u8 0, .int .u8 0, .int .u8 0, .int .u8 0, .int .u8 0, .int .u8 0, .int .u8 0, .int .u8 0] 32) n_2 w1 -> S w1 /\ WrL w1 n_2 0 32 /\ ∀ (w1_1 : World), PutB w1 n_2 0 (arrI .u8 f 32 0) w1_1 -> WrL w1_1 n_1 0 16 /\ ∀ (w1 : World), PutB w1_1 n_1 0 (arrI .u8 f_1 16 0) w1 -> KeptL [n] W_1 w1 /\ J [Value.string x, .pointer (some (Addr.mk n_2 0 none)), .pointer (some (Addr.mk n_1 0 none))] w1) /\ ∀ (n_2 : Nat) (w1 : World), NewB w' (Obj.cells #[.int .u8 0, .int .u8 0, .int .u8 0, .int .u8 0, .int .u8 0, .int .u8 0, .int .u8 0, .int .u8 0, .int .u8 0, .int .u8 0, .int .u8 0, .int .u8 0, .int .u8 0, .int .u8 0, .int .u8 0, .int .u8 0, .int .u8 0, .int .u8 0, .int .u8 0, .int .u8 0, .int .u8 0, .int .u8 0, .int .u8 0, .int .u8 0, .int .u8 0, .int .u8 0, .int .u8 0,
 .int .u8 0, .int .u8 0, .int .u8 0, .int .u8 0, .int .u8 0] 32) n_2 w1 -> S w1 /\ CallsS Tryz.prog 20 #[.int .u8 x_2] w1 fun (e : Ending) (w' : World) => ∃ (f_1 : Nat -> Int), e = .returned (.agg (arrI .u8 f_1 16 0).toArray) /\ WrL w' n_2 0 32 /\ ∀ (w1 : World), PutB w' n_2 0 (arrI .u8 f 32 0) w1 -> WrL w1 n_1 0 16 /\ ∀ (w1_1 : World), PutB w1 n_1 0 (arrI .u8 f_1 16 0) w1_1 -> KeptL [n] W_1 w1_1 /\ J [Value.string x, .pointer (some (Addr.mk n_2 0 none)), .pointer (some (Addr.mk n_1 0 none))] w1_1) /\ ∀ (n_2 : Nat) (w1_1 : World), NewB w1 (Obj.cells #[.int .u8 0, .int .u8 0, .int .u8 0, .int .u8 0, .int .u8 0, .int .u8 0, .int .u8 0, .int .u8 0, .int .u8 0, .int .u8 0, .int .u8 0, .int .u8 0, .int .u8 0, .int .u8 0, .int .u8 0, .int .u8 0, .int .u8 0, .int .u8 0, .int .u8 0, .int .u8 0, .int .u8 0, .int .u8 0, .int .u8 0, .int .u8 0, .int .u8 0, .int .u8 0, .int .u8 0,
 .int .u8 0, .int .u8 0, .int .u8 0, .int .u8 0, .int .u8 0] 32) n_2 w1_1 -> S w1_1 /\ CallsS Tryz.prog 30 #[.int .u8 x_1] w1_1 fun (e : Ending) (w' : World) => ∃ (x : ByteArray), e = .returned (.string x) /\ S w' /\ CallsS Tryz.prog 20 #[.int .u8 x_2] w' fun (e : Ending) (w' : World) => ∃ (f_1 : Nat -> Int), e = .returned (.agg (arrI .u8 f_1 16 0).toArray) /\ WrL w' n_2 0 32 /\ ∀ (w1 : World), PutB w' n_2 0 (arrI .u8 f 32 0) w1 -> WrL w1 n_1 0 16 /\ ∀ (w1_2 : World), PutB w1 n_1 0 (arrI .u8 f_1 16 0) w1_2 -> KeptL [n] W_1 w1_2 /\ J [Value.string x, .pointer (some (Addr.mk n_2 0 none)), .pointer (some (Addr.mk n_1 0 none))] w1_2) /\ (∀ (n_1 : Nat) (w1 : World), NewB W_1 (Obj.cells #[.int .u8 0, .int .u8 0, .int .u8 0, .int .u8 0, .int .u8 0, .int .u8 0, .int .u8 0, .int .u8 0, .int .u8 0, .int .u8 0, .int .u8 0, .int .u8 0, .int .u8 0, .int .u8 0, .int .u8 0, .int .u8 0,
 .int .u8 0, .int .u8 0, .int .u8 0, .int .u8 0, .int .u8 0, .int .u8 0, .int .u8 0, .int .u8 0, .int .u8 0, .int .u8 0, .int .u8 0, .int .u8 0, .int .u8 0, .int .u8 0, .int .u8 0, .int .u8 0] 32) n_1 w1 -> S w1 /\ (CallsS Tryz.prog 29 #[.int .u8 x] w1 fun (e : Ending) (w' : World) => ∃ (f : Nat -> Int), e = .returned (.agg (arrI .u8 f 32 0).toArray) /\ S w' /\ (CallsS Tryz.prog 30 #[.int .u8 x_1] w' fun (e : Ending) (w' : World) => ∃ (x : ByteArray), e = .returned (.string x) /\ S w' /\ (CallsS Tryz.prog 20 #[.int .u8 x_2] w' fun (e : Ending) (w' : World) => ∃ (f_1 : Nat -> Int), e = .returned (.agg (arrI .u8 f_1 16 0).toArray) /\ ∀ (n_2 : Nat) (w1 : World), NewB w' (Obj.cells #[.int .u8 0, .int .u8 0, .int .u8 0, .int .u8 0, .int .u8 0, .int .u8 0, .int .u8 0, .int .u8 0, .int .u8 0, .int .u8 0, .int .u8 0, .int .u8 0, .int .u8 0, .int .u8 0, .int .u8 0, .int .u8 0] 45) n_2 w1 ->
 S w1 /\ WrL w1 n_1 0 32 /\ ∀ (w1_1 : World), PutB w1 n_1 0 (arrI .u8 f 32 0) w1_1 -> WrL w1_1 n_2 0 16 /\ ∀ (w1 : World), PutB w1_1 n_2 0 (arrI .u8 f_1 16 0) w1 -> KeptL [n] W_1 w1 /\ J [Value.string x, .pointer (some (Addr.mk n_1 0 none)), .pointer (some (Addr.mk n_2 0 none))] w1) /\ ∀ (n_2 : Nat) (w1 : World), NewB w' (Obj.cells #[.int .u8 0, .int .u8 0, .int .u8 0, .int .u8 0, .int .u8 0, .int .u8 0, .int .u8 0, .int .u8 0, .int .u8 0, .int .u8 0, .int .u8 0, .int .u8 0, .int .u8 0, .int .u8 0, .int .u8 0, .int .u8 0] 45) n_2 w1 -> S w1 /\ CallsS Tryz.prog 20 #[.int .u8 x_2] w1 fun (e : Ending) (w' : World) => ∃ (f_1 : Nat -> Int), e = .returned (.agg (arrI .u8 f_1 16 0).toArray) /\ WrL w' n_1 0 32 /\ ∀ (w1 : World), PutB w' n_1 0 (arrI .u8 f 32 0) w1 -> WrL w1 n_2 0 16 /\ ∀ (w1_1 : World), PutB w1 n_2 0 (arrI .u8 f_1 16 0) w1_1 -> KeptL [n] W_1 w1_1 /\ J
 [Value.string x, .pointer (some (Addr.mk n_1 0 none)), .pointer (some (Addr.mk n_2 0 none))] w1_1) /\ ∀ (n_2 : Nat) (w1 : World), NewB w' (Obj.cells #[.int .u8 0, .int .u8 0, .int .u8 0, .int .u8 0, .int .u8 0, .int .u8 0, .int .u8 0, .int .u8 0, .int .u8 0, .int .u8 0, .int .u8 0, .int .u8 0, .int .u8 0, .int .u8 0, .int .u8 0, .int .u8 0] 45) n_2 w1 -> S w1 /\ CallsS Tryz.prog 30 #[.int .u8 x_1] w1 fun (e : Ending) (w' : World) => ∃ (x : ByteArray), e = .returned (.string x) /\ S w' /\ CallsS Tryz.prog 20 #[.int .u8 x_2] w' fun (e : Ending) (w' : World) => ∃ (f_1 : Nat -> Int), e = .returned (.agg (arrI .u8 f_1 16 0).toArray) /\ WrL w' n_1 0 32 /\ ∀ (w1 : World), PutB w' n_1 0 (arrI .u8 f 32 0) w1 -> WrL w1 n_2 0 16 /\ ∀ (w1_1 : World), PutB w1 n_2 0 (arrI .u8 f_1 16 0) w1_1 -> KeptL [n] W_1 w1_1 /\ J [Value.string x, .pointer (some (Addr.mk n_1 0 none)),
 .pointer (some (Addr.mk n_2 0 none))] w1_1) /\ ∀ (n_2 : Nat) (w1_1 : World), NewB w1 (Obj.cells #[.int .u8 0, .int .u8 0, .int .u8 0, .int .u8 0, .int .u8 0, .int .u8 0, .int .u8 0, .int .u8 0, .int .u8 0, .int .u8 0, .int .u8 0, .int .u8 0, .int .u8 0, .int .u8 0, .int .u8 0, .int .u8 0] 45) n_2 w1_1 -> S w1_1 /\ CallsS Tryz.prog 29 #[.int .u8 x] w1_1 fun (e : Ending) (w' : World) => ∃ (f : Nat -> Int), e = .returned (.agg (arrI .u8 f 32 0).toArray) /\ S w' /\ CallsS Tryz.prog 30 #[.int .u8 x_1] w' fun (e : Ending) (w' : World) => ∃ (x : ByteArray), e = .returned (.string x) /\ S w' /\ CallsS Tryz.prog 20 #[.int .u8 x_2] w' fun (e : Ending) (w' : World) => ∃ (f_1 : Nat -> Int), e = .returned (.agg (arrI .u8 f_1 16 0).toArray) /\ WrL w' n_1 0 32 /\ ∀ (w1 : World), PutB w' n_1 0 (arrI .u8 f 32 0) w1 -> WrL w1 n_2 0 16 /\ ∀ (w1_2 : World), PutB w1 n_2 0 (arrI .u8 f_1 16 0) w1_2 ->
 KeptL [n] W_1 w1_2 /\ J [Value.string x, .pointer (some (Addr.mk n_1 0 none)), .pointer (some (Addr.mk n_2 0 none))] w1_2) /\ ∀ (n_1 : Nat) (w1 : World), NewB W_1 (Obj.cells #[.int .u8 0, .int .u8 0, .int .u8 0, .int .u8 0, .int .u8 0, .int .u8 0, .int .u8 0, .int .u8 0, .int .u8 0, .int .u8 0, .int .u8 0, .int .u8 0, .int .u8 0, .int .u8 0, .int .u8 0, .int .u8 0] 45) n_1 w1 -> S w1 /\ (CallsS Tryz.prog 29 #[.int .u8 x] w1 fun (e : Ending) (w' : World) => ∃ (f : Nat -> Int), e = .returned (.agg (arrI .u8 f 32 0).toArray) /\ S w' /\ (CallsS Tryz.prog 30 #[.int .u8 x_1] w' fun (e : Ending) (w' : World) => ∃ (x : ByteArray), e = .returned (.string x) /\ S w' /\ (CallsS Tryz.prog 20 #[.int .u8 x_2] w' fun (e : Ending) (w' : World) => ∃ (f_1 : Nat -> Int), e = .returned (.agg (arrI .u8 f_1 16 0).toArray) /\ ∀ (n_2 : Nat) (w1 : World), NewB w' (Obj.cells
 #[.int .u8 0, .int .u8 0, .int .u8 0, .int .u8 0, .int .u8 0, .int .u8 0, .int .u8 0, .int .u8 0, .int .u8 0, .int .u8 0, .int .u8 0, .int .u8 0, .int .u8 0, .int .u8 0, .int .u8 0, .int .u8 0, .int .u8 0, .int .u8 0, .int .u8 0, .int .u8 0, .int .u8 0, .int .u8 0, .int .u8 0, .int .u8 0, .int .u8 0, .int .u8 0, .int .u8 0, .int .u8 0, .int .u8 0, .int .u8 0, .int .u8 0, .int .u8 0] 32) n_2 w1 -> S w1 /\ WrL w1 n_2 0 32 /\ ∀ (w1_1 : World), PutB w1 n_2 0 (arrI .u8 f 32 0) w1_1 -> WrL w1_1 n_1 0 16 /\ ∀ (w1 : World), PutB w1_1 n_1 0 (arrI .u8 f_1 16 0) w1 -> KeptL [n] W_1 w1 /\ J [Value.string x, .pointer (some (Addr.mk n_2 0 none)), .pointer (some (Addr.mk n_1 0 none))] w1) /\ ∀ (n_2 : Nat) (w1 : World), NewB w' (Obj.cells #[.int .u8 0, .int .u8 0, .int .u8 0, .int .u8 0, .int .u8 0, .int .u8 0, .int .u8 0, .int .u8 0, .int .u8 0, .int .u8 0, .int .u8 0, .int .u8 0,
 .int .u8 0, .int .u8 0, .int .u8 0, .int .u8 0, .int .u8 0, .int .u8 0, .int .u8 0, .int .u8 0, .int .u8 0, .int .u8 0, .int .u8 0, .int .u8 0, .int .u8 0, .int .u8 0, .int .u8 0, .int .u8 0, .int .u8 0, .int .u8 0, .int .u8 0, .int .u8 0] 32) n_2 w1 -> S w1 /\ CallsS Tryz.prog 20 #[.int .u8 x_2] w1 fun (e : Ending) (w' : World) => ∃ (f_1 : Nat -> Int), e = .returned (.agg (arrI .u8 f_1 16 0).toArray) /\ WrL w' n_2 0 32 /\ ∀ (w1 : World), PutB w' n_2 0 (arrI .u8 f 32 0) w1 -> WrL w1 n_1 0 16 /\ ∀ (w1_1 : World), PutB w1 n_1 0 (arrI .u8 f_1 16 0) w1_1 -> KeptL [n] W_1 w1_1 /\ J [Value.string x, .pointer (some (Addr.mk n_2 0 none)), .pointer (some (Addr.mk n_1 0 none))] w1_1) /\ ∀ (n_2 : Nat) (w1 : World), NewB w' (Obj.cells #[.int .u8 0, .int .u8 0, .int .u8 0, .int .u8 0, .int .u8 0, .int .u8 0, .int .u8 0, .int .u8 0, .int .u8 0, .int .u8 0, .int .u8 0, .int .u8 0,
 .int .u8 0, .int .u8 0, .int .u8 0, .int .u8 0, .int .u8 0, .int .u8 0, .int .u8 0, .int .u8 0, .int .u8 0, .int .u8 0, .int .u8 0, .int .u8 0, .int .u8 0, .int .u8 0, .int .u8 0, .int .u8 0, .int .u8 0, .int .u8 0, .int .u8 0, .int .u8 0] 32) n_2 w1 -> S w1 /\ CallsS Tryz.prog 30 #[.int .u8 x_1] w1 fun (e : Ending) (w' : World) => ∃ (x : ByteArray), e = .returned (.string x) /\ S w' /\ CallsS Tryz.prog 20 #[.int .u8 x_2] w' fun (e : Ending) (w' : World) => ∃ (f_1 : Nat -> Int), e = .returned (.agg (arrI .u8 f_1 16 0).toArray) /\ WrL w' n_2 0 32 /\ ∀ (w1 : World), PutB w' n_2 0 (arrI .u8 f 32 0) w1 -> WrL w1 n_1 0 16 /\ ∀ (w1_1 : World), PutB w1 n_1 0 (arrI .u8 f_1 16 0) w1_1 -> KeptL [n] W_1 w1_1 /\ J [Value.string x, .pointer (some (Addr.mk n_2 0 none)), .pointer (some (Addr.mk n_1 0 none))] w1_1) /\ ∀ (n_2 : Nat) (w1_1 : World), NewB w1 (Obj.cells
 #[.int .u8 0, .int .u8 0, .int .u8 0, .int .u8 0, .int .u8 0, .int .u8 0, .int .u8 0, .int .u8 0, .int .u8 0, .int .u8 0, .int .u8 0, .int .u8 0, .int .u8 0, .int .u8 0, .int .u8 0, .int .u8 0, .int .u8 0, .int .u8 0, .int .u8 0, .int .u8 0, .int .u8 0, .int .u8 0, .int .u8 0, .int .u8 0, .int .u8 0, .int .u8 0, .int .u8 0, .int .u8 0, .int .u8 0, .int .u8 0, .int .u8 0, .int .u8 0] 32) n_2 w1_1 -> S w1_1 /\ CallsS Tryz.prog 29 #[.int .u8 x] w1_1 fun (e : Ending) (w' : World) => ∃ (f : Nat -> Int), e = .returned (.agg (arrI .u8 f 32 0).toArray) /\ S w' /\ CallsS Tryz.prog 30 #[.int .u8 x_1] w' fun (e : Ending) (w' : World) => ∃ (x : ByteArray), e = .returned (.string x) /\ S w' /\ CallsS Tryz.prog 20 #[.int .u8 x_2] w' fun (e : Ending) (w' : World) => ∃ (f_1 : Nat -> Int), e = .returned (.agg (arrI .u8 f_1 16 0).toArray) /\ WrL w' n_2 0 32 /\ ∀ (w1 : World), PutB w' n_2 0
 (arrI .u8 f 32 0) w1 -> WrL w1 n_1 0 16 /\ ∀ (w1_2 : World), PutB w1 n_1 0 (arrI .u8 f_1 16 0) w1_2 -> KeptL [n] W_1 w1_2 /\ J [Value.string x, .pointer (some (Addr.mk n_2 0 none)), .pointer (some (Addr.mk n_1 0 none))] w1_2) /\ ∀ (x : ByteArray) (x_1 x_2 : Option Addr) (w' : World), J [Value.string x, .pointer x_1, .pointer x_2] w' -> Loc w.heap.size [Blk.mk n 66 [Value.int .u8 k, .int .u8 i, .int .u8 g, .int .u8 a, .int .i64 now, .string t] 0] w' w' -> ((0 <= if 300 < (↑t.size : Int) then 300 else (↑t.size : Int)) /\ (if 300 < (↑t.size : Int) then 300 else (↑t.size : Int)) <= (↑t.size : Int)) /\ bsp (k.tmod 8 == 0) (∀ (W : World), Loc w.heap.size [Blk.mk n 66 [Value.int .u8 k, .int .u8 i, .int .u8 g, .int .u8 a, .int .i64 now, .string t] 0] w' W -> ∃ (S : World -> Prop), S W /\ nn true x_1 fun (b_1 o : Nat) => ∃ (f : Nat -> Int), (∀ (w' : World), S w' -> AtL w' b_1 o
 (arrI .u8 f 32 0)) /\ ∃ (x_3 : Int), (∀ (w' : World), S w' -> w'.cell? (Addr.mk n (0 + 4) none) = some (.int .i64 x_3)) /\ nn true x_1 fun (b_2 o : Nat) => ∃ (f_1 : Nat -> Int), (∀ (w' : World), S w' -> AtL w' b_2 o (arrI .u8 f_1 32 0)) /\ ∃ (x_4 : Int), (∀ (w' : World), S w' -> w'.cell? (Addr.mk n (0 + 4) none) = some (.int .i64 x_4)) /\ CallsS Tryz.prog 18 #[.pointer (some (Addr.mk b 0 none)), .agg (arrI .u8 f 32 0).toArray, .string x, .string (t.extract 0 (if 300 < (↑t.size : Int) then 300 else (↑t.size : Int)).toNat), .int .i64 x_3] W fun (e : Ending) (w' : World) => ∃ (x_5 : Int), e = .returned (.int .i64 x_5) /\ S w' /\ CallsS Tryz.prog 26 #[.pointer (some (Addr.mk m 0 none)), .agg (arrI .u8 f_1 32 0).toArray, .string x, .string (t.extract 0 (if 300 < (↑t.size : Int) then 300 else (↑t.size : Int)).toNat), .int .i64 x_4] w' fun (e : Ending) (w' : World) => ∃ (x : Int),
 e = .returned (.int .i64 x) /\ KeptL [n] W w' /\ R (.returned (.bool (x_5 == x))) w') (bsp (k.tmod 8 == 1) (∃ (J : List Value -> World -> Prop), (nn true x_2 fun (b_1 o : Nat) => ∃ (f : Nat -> Int), AtL w' b_1 o (arrI .u8 f 16 0) /\ CallsS Tryz.prog 39 #[.pointer (some (Addr.mk b 0 none)), .string x, .agg (arrI .u8 f 16 0).toArray, .int .i64 now] w' fun (e : Ending) (w'_1 : World) => ∃ (f : Nat -> Int) (x : ByteArray), ∃ (x_3 : ByteArray) (x_4 : Int), ∃ (x_5 : Int) (f_1 : Nat -> Int), ∃ (x_6 : Int) (x_7 : ByteArray) (x_8 : Int), e = .returned (.tuple #[.agg (arrI .u8 f 32 0 ++ ([Value.string x, .string x_3, .int .i64 x_4, .int .i64 x_5] ++ arrI .u8 f_1 16 0 ++ [Value.int .i64 x_6, .string x_7])).toArray, .int .i64 x_8]) /\ KeptL [n] w' w'_1 /\ ∀ (n_1 : Nat) (W : World), Loc w.heap.size [Blk.mk n 66 [Value.int .u8 k, .int .u8 i, .int .u8 g,
 .int .u8 a, .int .i64 now, .string t] 0, Blk.mk n_1 48 (arrI .u8 f 32 0 ++ ([Value.string x, .string x_3, .int .i64 x_4, .int .i64 x_5] ++ arrI .u8 f_1 16 0 ++ [Value.int .i64 x_6, .string x_7])) (wrM 2)] w'_1 W -> J [Value.int .i64 x_8, .pointer (some (Addr.mk n_1 0 none))] W) /\ ∀ (x_3 : Int) (x_4 : Option Addr) (w' : World), J [Value.int .i64 x_3, .pointer x_4] w' -> Loc w.heap.size [Blk.mk n 66 [Value.int .u8 k, .int .u8 i, .int .u8 g, .int .u8 a, .int .i64 now, .string t] 0] w' w' -> ∃ (J : List Value -> World -> Prop), (nn true x_2 fun (b o : Nat) => ∃ (f : Nat -> Int), AtL w' b o (arrI .u8 f 16 0) /\ CallsS Tryz.prog 62 #[.pointer (some (Addr.mk m 0 none)), .string x, .agg (arrI .u8 f 16 0).toArray, .int .i64 now] w' fun (e : Ending) (w'_1 : World) => ∃ (f : Nat -> Int) (x : ByteArray), ∃ (x_5 : ByteArray) (x_6 : Int), ∃ (x_7 : Int) (f_1 : Nat -> Int) (x_8 : Int),
 ∃ (x_9 : ByteArray) (x_10 : Int), e = .returned (.tuple #[.agg (arrI .u8 f 32 0 ++ ([Value.string x, .string x_5, .int .i64 x_6, .int .i64 x_7] ++ arrI .u8 f_1 16 0 ++ [Value.int .i64 x_8, .string x_9])).toArray, .int .i64 x_10]) /\ KeptL [n] w' w'_1 /\ ∀ (n_1 : Nat) (W : World), Loc w.heap.size [Blk.mk n 66 [Value.int .u8 k, .int .u8 i, .int .u8 g, .int .u8 a, .int .i64 now, .string t] 0, Blk.mk n_1 48 (arrI .u8 f 32 0 ++ ([Value.string x, .string x_5, .int .i64 x_6, .int .i64 x_7] ++ arrI .u8 f_1 16 0 ++ [Value.int .i64 x_8, .string x_9])) (wrM 2)] w'_1 W -> J [Value.int .i64 x_10, .pointer (some (Addr.mk n_1 0 none))] W) /\ ∀ (x : Int) (x_5 : Option Addr) (w' : World), J [Value.int .i64 x, .pointer x_5] w' -> Loc w.heap.size [Blk.mk n 66 [Value.int .u8 k, .int .u8 i, .int .u8 g, .int .u8 a, .int .i64 now, .string t] 0] w' w' -> nn true x_4 fun (b o : Nat) => ∃ (f : Nat -> Int),
 ∃ (x_6 : ByteArray) (x_7 : ByteArray), ∃ (x_8 : Int) (x_9 : Int), ∃ (f_1 : Nat -> Int) (x_10 : Int) (x_11 : ByteArray), AtL w' b o (arrI .u8 f 32 0 ++ ([Value.string x_6, .string x_7, .int .i64 x_8, .int .i64 x_9] ++ arrI .u8 f_1 16 0 ++ [Value.int .i64 x_10, .string x_11])) /\ nn true x_5 fun (b o : Nat) => ∃ (f_2 : Nat -> Int) (x_12 : ByteArray), ∃ (x_13 : ByteArray) (x_14 : Int), ∃ (x_15 : Int) (f_3 : Nat -> Int), ∃ (x_16 : Int) (x_17 : ByteArray), AtL w' b o (arrI .u8 f_2 32 0 ++ ([Value.string x_12, .string x_13, .int .i64 x_14, .int .i64 x_15] ++ arrI .u8 f_3 16 0 ++ [Value.int .i64 x_16, .string x_17])) /\ ∃ (r : Bool), EqP Tryz.prog 48 (.agg (arrI .u8 f 32 0 ++ ([Value.string x_6, .string x_7, .int .i64 x_8, .int .i64 x_9] ++ arrI .u8 f_1 16 0 ++ [Value.int .i64 x_10, .string x_11])).toArray) (.agg
 (arrI .u8 f_2 32 0 ++ ([Value.string x_12, .string x_13, .int .i64 x_14, .int .i64 x_15] ++ arrI .u8 f_3 16 0 ++ [Value.int .i64 x_16, .string x_17])).toArray) r /\ R (.returned (.bool (r && x_3 == x))) w') (bsp (k.tmod 8 == 2) (∀ (W : World), Loc w.heap.size [Blk.mk n 66 [Value.int .u8 k, .int .u8 i, .int .u8 g, .int .u8 a, .int .i64 now, .string t] 0] w' W -> ∃ (S : World -> Prop), S W /\ nn true x_1 fun (b_1 o : Nat) => ∃ (f : Nat -> Int), (∀ (w' : World), S w' -> AtL w' b_1 o (arrI .u8 f 32 0)) /\ nn true x_2 fun (b_2 o : Nat) => ∃ (f_1 : Nat -> Int), (∀ (w' : World), S w' -> AtL w' b_2 o (arrI .u8 f_1 16 0)) /\ ∃ (x_3 : Int), (∀ (w' : World), S w' -> w'.cell? (Addr.mk n (0 + 4) none) = some (.int .i64 x_3)) /\ nn true x_1 fun (b_3 o : Nat) => ∃ (f_2 : Nat -> Int), (∀ (w' : World), S w' -> AtL w' b_3 o (arrI .u8 f_2 32 0)) /\ nn true x_2 fun (b_4 o : Nat) => ∃ (f_3 : Nat -> Int),
 (∀ (w' : World), S w' -> AtL w' b_4 o (arrI .u8 f_3 16 0)) /\ ∃ (x_4 : Int), (∀ (w' : World), S w' -> w'.cell? (Addr.mk n (0 + 4) none) = some (.int .i64 x_4)) /\ CallsS Tryz.prog 43 #[.pointer (some (Addr.mk b 0 none)), .agg (arrI .u8 f 32 0).toArray, .string x, .agg (arrI .u8 f_1 16 0).toArray, .int .i64 x_3] W fun (e : Ending) (w' : World) => ∃ (x_5 : Int), e = .returned (.int .i64 x_5) /\ S w' /\ CallsS Tryz.prog 63 #[.pointer (some (Addr.mk m 0 none)), .agg (arrI .u8 f_2 32 0).toArray, .string x, .agg (arrI .u8 f_3 16 0).toArray, .int .i64 x_4] w' fun (e : Ending) (w' : World) => ∃ (x : Int), e = .returned (.int .i64 x) /\ KeptL [n] W w' /\ R (.returned (.bool (x_5 == x))) w') (bsp (k.tmod 8 == 3) (∃ (J : List Value -> World -> Prop), (nn true x_1 fun (b_1 o : Nat) => ∃ (f : Nat -> Int), AtL w' b_1 o (arrI .u8 f 32 0) /\ nn true x_2 fun (b_2 o : Nat) => ∃ (f_1 : Nat -> Int),
 AtL w' b_2 o (arrI .u8 f_1 16 0) /\ CallsS Tryz.prog 19 #[.pointer (some (Addr.mk b 0 none)), .agg (arrI .u8 f 32 0).toArray, .string x, .agg (arrI .u8 f_1 16 0).toArray, .int .i64 now] w' fun (e : Ending) (w'_1 : World) => ∃ (x : Int) (f : Nat -> Int), ∃ (x_3 : ByteArray) (x_4 : Int), ∃ (x_5 : Bool) (p : Option Addr), ∃ (n_1 : Nat) (c : Nat), ∃ (x_6 : ByteArray) (x_7 : Int), ∃ (x_8 : Int) (f_2 : Nat -> Int) (x_9 : Int), e = .returned (.tuple #[.agg ([Value.int .i64 x] ++ arrI .u8 f 32 0 ++ ([Value.string x_3, .int .i64 x_4, .bool x_5, .slice p n_1 c, .string x_6, .int .i64 x_7, .int .i64 x_8] ++ arrI .u8 f_2 16 0)).toArray, .int .i64 x_9]) /\ KeptL [n] w' w'_1 /\ ∀ (n_2 : Nat) (W : World), Loc w.heap.size [Blk.mk n 66 [Value.int .u8 k, .int .u8 i, .int .u8 g, .int .u8 a, .int .i64 now, .string t] 0, Blk.mk n_2 42
 ([Value.int .i64 x] ++ arrI .u8 f 32 0 ++ ([Value.string x_3, .int .i64 x_4, .bool x_5, .slice p n_1 c, .string x_6, .int .i64 x_7, .int .i64 x_8] ++ arrI .u8 f_2 16 0)) (wrM 2)] w'_1 W -> J [Value.int .i64 x_9, .pointer (some (Addr.mk n_2 0 none))] W) /\ ∀ (x_3 : Int) (x_4 : Option Addr) (w' : World), J [Value.int .i64 x_3, .pointer x_4] w' -> Loc w.heap.size [Blk.mk n 66 [Value.int .u8 k, .int .u8 i, .int .u8 g, .int .u8 a, .int .i64 now, .string t] 0] w' w' -> ∃ (J : List Value -> World -> Prop), (nn true x_1 fun (b o : Nat) => ∃ (f : Nat -> Int), AtL w' b o (arrI .u8 f 32 0) /\ nn true x_2 fun (b o : Nat) => ∃ (f_1 : Nat -> Int), AtL w' b o (arrI .u8 f_1 16 0) /\ CallsS Tryz.prog 27 #[.pointer (some (Addr.mk m 0 none)), .agg (arrI .u8 f 32 0).toArray, .string x, .agg (arrI .u8 f_1 16 0).toArray, .int .i64 1, .string (ByteArray.mk #[]), .int .i64 now]
 w' fun (e : Ending) (w'_1 : World) => ∃ (x : Int), e = .returned (.int .i64 x) /\ KeptL [n] w' w'_1 /\ J [Value.int .i64 x] w'_1) /\ ∀ (x_5 : Int) (w' : World), J [Value.int .i64 x_5] w' -> Loc w.heap.size [Blk.mk n 66 [Value.int .u8 k, .int .u8 i, .int .u8 g, .int .u8 a, .int .i64 now, .string t] 0] w' w' -> ∀ (W : World), Loc w.heap.size [Blk.mk n 66 [Value.int .u8 k, .int .u8 i, .int .u8 g, .int .u8 a, .int .i64 now, .string t] 0] w' W -> ∃ (S : World -> Prop), S W /\ nn (x_3 == x_5) x_4 fun (b o : Nat) => ∃ (x_6 : Int) (f : Nat -> Int), ∃ (x_7 : ByteArray) (x_8 : Int), ∃ (x_9 : Bool) (p : Option Addr), ∃ (n_1 : Nat) (c : Nat), ∃ (x_10 : ByteArray) (x_11 : Int), ∃ (x_12 : Int) (f_1 : Nat -> Int), gimp (x_3 == x_5) (∀ (w' : World), S w' -> AtL w' b o ([Value.int .i64 x_6] ++ arrI .u8 f 32 0 ++ ([Value.string x_7, .int .i64 x_8,
 .bool x_9, .slice p n_1 c, .string x_10, .int .i64 x_11, .int .i64 x_12] ++ arrI .u8 f_1 16 0))) /\ nn (x_3 == x_5) x_1 fun (b o : Nat) => ∃ (f_2 : Nat -> Int), gimp (x_3 == x_5) (∀ (w' : World), S w' -> AtL w' b o (arrI .u8 f_2 32 0)) /\ bsp (x_3 == x_5) (CallsS Tryz.prog 23 #[.agg (arrI .u8 f_2 32 0).toArray, .string x, .int .i64 x_3] W fun (e : Ending) (w' : World) => ∃ (x : Int) (f_3 : Nat -> Int), ∃ (x_13 : ByteArray) (x_14 : Int), ∃ (x_15 : Bool) (p_1 : Option Addr), ∃ (n_2 : Nat) (c_1 : Nat), ∃ (x_16 : ByteArray) (x_17 : Int), ∃ (x_18 : Int) (f_4 : Nat -> Int), e = .returned (.agg ([Value.int .i64 x] ++ arrI .u8 f_3 32 0 ++ ([Value.string x_13, .int .i64 x_14, .bool x_15, .slice p_1 n_2 c_1, .string x_16, .int .i64 x_17, .int .i64 x_18] ++ arrI .u8 f_4 16 0)).toArray) /\ S w' /\ CallsS Tryz.prog 22 #[.agg
 ([Value.int .i64 x_6] ++ arrI .u8 f 32 0 ++ ([Value.string x_7, .int .i64 x_8, .bool x_9, .slice p n_1 c, .string x_10, .int .i64 x_11, .int .i64 x_12] ++ arrI .u8 f_1 16 0)).toArray, .agg ([Value.int .i64 x] ++ arrI .u8 f_3 32 0 ++ ([Value.string x_13, .int .i64 x_14, .bool x_15, .slice p_1 n_2 c_1, .string x_16, .int .i64 x_17, .int .i64 x_18] ++ arrI .u8 f_4 16 0)).toArray] w' fun (e : Ending) (w' : World) => ∃ (x : Bool), e = .returned (.bool x) /\ KeptL [n] W w' /\ R (.returned (.bool (true && x))) w') (S W /\ KeptL [n] W W /\ R (.returned (.bool false)) W)) (bsp (k.tmod 8 == 4) (∀ (W : World), Loc w.heap.size [Blk.mk n 66 [Value.int .u8 k, .int .u8 i, .int .u8 g, .int .u8 a, .int .i64 now, .string t] 0] w' W -> ∃ (S : World -> Prop), S W /\ nn true x_1 fun (b_1 o : Nat) => ∃ (f : Nat -> Int), (∀ (w' : World), S w' -> AtL w' b_1 o (arrI .u8 f 32 0)) /\
 nn true x_2 fun (b_2 o : Nat) => ∃ (f_1 : Nat -> Int), (∀ (w' : World), S w' -> AtL w' b_2 o (arrI .u8 f_1 16 0)) /\ ∃ (x_3 : Int), (∀ (w' : World), S w' -> w'.cell? (Addr.mk n (0 + 4) none) = some (.int .i64 x_3)) /\ nn true x_1 fun (b_3 o : Nat) => ∃ (f_2 : Nat -> Int), (∀ (w' : World), S w' -> AtL w' b_3 o (arrI .u8 f_2 32 0)) /\ nn true x_2 fun (b_4 o : Nat) => ∃ (f_3 : Nat -> Int), (∀ (w' : World), S w' -> AtL w' b_4 o (arrI .u8 f_3 16 0)) /\ ∃ (x_4 : Int), (∀ (w' : World), S w' -> w'.cell? (Addr.mk n (0 + 4) none) = some (.int .i64 x_4)) /\ CallsS Tryz.prog 24 #[.pointer (some (Addr.mk b 0 none)), .agg (arrI .u8 f 32 0).toArray, .string x, .agg (arrI .u8 f_1 16 0).toArray, .string (t.extract 0 (if 300 < (↑t.size : Int) then 300 else (↑t.size : Int)).toNat), .int .i64 x_3] W fun (e : Ending) (w' : World) => ∃ (x_5 : Int), e = .returned (.int .i64 x_5) /\ S w' /\
 CallsS Tryz.prog 27 #[.pointer (some (Addr.mk m 0 none)), .agg (arrI .u8 f_2 32 0).toArray, .string x, .agg (arrI .u8 f_3 16 0).toArray, .int .i64 2, .string (t.extract 0 (if 300 < (↑t.size : Int) then 300 else (↑t.size : Int)).toNat), .int .i64 x_4] w' fun (e : Ending) (w' : World) => ∃ (x : Int), e = .returned (.int .i64 x) /\ KeptL [n] W w' /\ R (.returned (.bool (x_5 == x))) w') (bsp (k.tmod 8 == 5) (∀ (W : World), Loc w.heap.size [Blk.mk n 66 [Value.int .u8 k, .int .u8 i, .int .u8 g, .int .u8 a, .int .i64 now, .string t] 0] w' W -> ∃ (S : World -> Prop), S W /\ ∃ (x : Int), (∀ (w' : World), S w' -> w'.cell? (Addr.mk n (0 + 4) none) = some (.int .i64 x)) /\ ∃ (x_3 : Int), (∀ (w' : World), S w' -> w'.cell? (Addr.mk n (0 + 4) none) = some (.int .i64 x_3)) /\ CallsS Tryz.prog 33 #[.pointer (some (Addr.mk b 0 none)), .int .i64 x] W fun (e : Ending) (w' : World) => ∃ (p : Option Addr),
 ∃ (n_1 : Nat) (c : Nat), e = .returned (.slice p n_1 c) /\ S w' /\ CallsS Tryz.prog 35 #[.pointer (some (Addr.mk m 0 none)), .int .i64 x_3] w' fun (e : Ending) (w' : World) => ∃ (p_1 : Option Addr) (n_2 : Nat) (c_1 : Nat), e = .returned (.slice p_1 n_2 c_1) /\ CallsS Tryz.prog 34 #[.slice p n_1 c, .slice p_1 n_2 c_1] w' fun (e : Ending) (w' : World) => ∃ (x : Bool), e = .returned (.bool x) /\ KeptL [n] W w' /\ R (.returned (.bool x)) w') (bsp (k.tmod 8 == 6) (∀ (W : World), Loc w.heap.size [Blk.mk n 66 [Value.int .u8 k, .int .u8 i, .int .u8 g, .int .u8 a, .int .i64 now, .string t] 0] w' W -> ∃ (S : World -> Prop), S W /\ ∃ (x : Int), (∀ (w' : World), S w' -> w'.cell? (Addr.mk n (0 + 4) none) = some (.int .i64 x)) /\ ∃ (x_3 : Int), (∀ (w' : World), S w' -> w'.cell? (Addr.mk n (0 + 4) none) = some (.int .i64 x_3)) /\
 CallsS Tryz.prog 44 #[.pointer (some (Addr.mk b 0 none)), .int .i64 x] W fun (e : Ending) (w' : World) => ∃ (x : Int), e = .returned (.int .i64 x) /\ S w' /\ CallsS Tryz.prog 64 #[.pointer (some (Addr.mk m 0 none)), .int .i64 x_3] w' fun (e : Ending) (w' : World) => ∃ (x_4 : Int), e = .returned (.int .i64 x_4) /\ KeptL [n] W w' /\ R (.returned (.bool (x == x_4))) w') (∃ (I : List Value -> World -> Prop) (m_1 : List Value -> World -> Nat), I [Value.int .i64 0, .slice none 0 0] w' /\ ∀ (x_3 : Int) (p : Option Addr) (n_1 c : Nat) (w' : World), I [Value.int .i64 x_3, .slice p n_1 c] w' -> Loc w.heap.size [Blk.mk n 66 [Value.int .u8 k, .int .u8 i, .int .u8 g, .int .u8 a, .int .i64 now, .string t] 0] w' w' -> bsp (decide (x_3 < (IntKind.i64.wrap a).tmod 12)) (∀ (n_2 : Nat) (W : World), Loc w.heap.size [Blk.mk n 66 [Value.int .u8 k, .int .u8 i, .int .u8 g,
 .int .u8 a, .int .i64 now, .string t] 0, Blk.mk n_2 45 [Value.int .u8 0, .int .u8 0, .int .u8 0, .int .u8 0, .int .u8 0, .int .u8 0, .int .u8 0, .int .u8 0, .int .u8 0, .int .u8 0, .int .u8 0, .int .u8 0, .int .u8 0, .int .u8 0, .int .u8 0, .int .u8 ((IntKind.u8.wrap (IntKind.i64.wrap (IntKind.i64.wrap (IntKind.i64.wrap i * x_3) + IntKind.i64.wrap a))).tmod 10)] 2] w' W -> ∃ (base : Nat) (xs : List Value), W.ownsRow base 45 16 (.slice p n_1 c) n_1 xs /\ n_1 + 1 <= 9223372036854775807 /\ (n_1 + 1) * 16 <= 140737488355328 /\ base <= W.heap.size /\ ∀ (p' : Option Addr) (c' : Nat) (w'_1 : World), w'_1.ownsRow base 45 16 (.slice p' (n_1 + 1) c') (n_1 + 1) (xs ++ [Value.int .u8 0, .int .u8 0, .int .u8 0, .int .u8 0, .int .u8 0, .int .u8 0, .int .u8 0, .int .u8 0, .int .u8 0, .int .u8 0, .int .u8 0, .int .u8 0, .int .u8 0, .int .u8 0, .int .u8 0, .int .u8 ((IntKind.u8.wrap
 (IntKind.i64.wrap (IntKind.i64.wrap (IntKind.i64.wrap i * x_3) + IntKind.i64.wrap a))).tmod 10)]) -> W.grownBy w'_1 (Value.slice p n_1 c).ownBlock -> AppL W p n_1 c 1 p' c' -> KeptL [n] W w'_1 /\ I [Value.int .i64 (IntKind.i64.wrap (x_3 + 1)), .slice p' (n_1 + 1) c'] w'_1 /\ m_1 [Value.int .i64 (IntKind.i64.wrap (x_3 + 1)), .slice p' (n_1 + 1) c'] w'_1 < m_1 [Value.int .i64 x_3, .slice p n_1 c] w') (CallsS Tryz.prog 38 #[.pointer (some (Addr.mk b 0 none)), .string x, .slice p n_1 c] w' fun (e : Ending) (w'_1 : World) => ∃ (x_4 : Int), e = .returned (.int .i64 x_4) /\ KeptL [n] w' w'_1 /\ CallsS Tryz.prog 25 #[.pointer (some (Addr.mk m 0 none)), .string x, .slice p n_1 c] w'_1 fun (e : Ending) (w' : World) => ∃ (x : Int), e = .returned (.int .i64 x) /\ KeptL [n] w'_1 w' /\ R (.returned (.bool (x_4 == x))) w'))))))))
theorem vc_ldo (b : Nat) (m : Nat) (k : Int) (i : Int) (g : Int) (a : Int) (now : Int) (t : ByteArray) (w : World) (R : Ending -> World -> Prop) (h : VC_ldo b m k i g a now t w R) : Calls Tryz.prog 31 ([Value.pointer (some { block := b, off := 0 }), .pointer (some { block := m, off := 0 }), .agg #[.int .u8 k, .int .u8 i, .int .u8 g, .int .u8 a, .int .i64 now, .string t]] : List Value).toArray w R :=
 calls_of_exec2' (loops := [(24, [(19, Ck.int .i64), (18, Ck.slice)])]) (tails := [(1, 2), (5, 6), (11, 6), (15, 8), (17, 7), (19, 3), (21, 3)]) (joins := [(2, [(8, Ck.str), (7, .ptr), (9, .ptr)]), (8, [(12, Ck.int .i64), (11, .ptr)]), (9, [(14, Ck.int .i64), (13, .ptr)]), (14, [(16, Ck.int .i64), (15, .ptr)]), (15, [(17, Ck.int .i64)])]) (boxes := []) (rngs := []) (c := Tryz.f31.body.getD .skip) pur1_ok Tryz.func31 (by kernel_rfl) (by kernel_rfl) h
end Go.Proofs.YtfacflbmlfbeeaaGreatDoor
namespace Go.Proofs.YtfacflbmlfbeeaaGreatDoor
open Go.RowKit Go.Sort Go.Maps
theorem cmd_of (E : Int) {f : Nat -> Int} (hf : BY f) (g : ByteArray) : ∃ (kk : Int) (ff : Nat -> Int) (gg : ByteArray), BY ff /\ cmdL E f g = apC kk ff gg := by
 unfold cmdL
 split
 ·exact ⟨_, _, _, hf, rfl⟩
 ·exact ⟨_, _, _, by0, rfl⟩
set_option maxRecDepth 100000 in
set_option maxHeartbeats 32000000 in
theorem ldo_any {w0 w : World} {b mb eb m n0 : Nat} {q : Qu} {M : Mo} {P : Pl} (h : SW w0 w b mb eb m q M P) (r : Rq n0 q M) (hn0 : n0 <= 5000) (hG : GW w0) (k i g a now : Int) (t : ByteArray) (hk0 : 0 <= k) (hi0 : 0 <= i /\ i <= 255) (hg0 : 0 <= g /\ g <= 255) (ha0 : 0 <= a /\ a <= 255) :
  Calls Tryz.prog 31 #[.pointer (some ⟨b, 0, none⟩), .pointer (some ⟨m, 0, none⟩), .agg (([.int .u8 k, .int .u8 i, .int .u8 g, .int .u8 a, .int .i64 now, .string t] : List Value)).toArray] w fun e w' => e = .returned (.bool true) /\ ∃ (q' : Qu) (M' : Mo) (P' : Pl), SW w0 w' b mb eb m q' M' P' /\ Rq (n0 + 1) q' M' /\ stpM k i g a now t M M' /\ KD w w' := by
 refine vc_ldo b m k i g a now t w _ (fun n W hW => ?_)
 have kW : K0 w W := hW.kk rfl
 refine ⟨fun vs wx => ∃ n1 n2 : Nat, vs = [.string (nmG g), .pointer (some ⟨n1, 0, none⟩), .pointer (some ⟨n2, 0, none⟩)] /\ wx.heap[n1]? = some (.cells (arrI .u8 (idN i) 32 0).toArray 32 (0, 0)) /\ wx.heap[n2]? = some (.cells (arrI .u8 (auN a) 16 0).toArray 45 (0, 0)) /\ K0 w wx, fun W1 hW1 => ?_, ?_⟩
 ·have kW1' : K0 W W1 := hW1.kk rfl
  have hkW := kW.trans kW1'
  have hc := hW1.cells 0 rfl
  have hnW := block_lt hc
  simp only at hnW
  clear hW hW1
  have kW1 : K0 W1 W1 := .refl _ _
  refine ⟨fun wx => K0 W1 wx, kW1, i, fun wx k => cell_at (k.blk hc (fun h => h)) rfl, g, fun wx k => cell_at (k.blk hc (fun h => h)) rfl, a, fun wx k => cell_at (k.blk hc (fun h => h)) rfl, ?_⟩
  refine ⟨?_, ?_, ?_⟩
  ·refine ⟨(lid_any i W1).mono fun e v0 ⟨he, kk0⟩ => ⟨_, he, kW1.trans kk0, ?_⟩⟩
   have kc0 := kW1.trans kk0
   refine ⟨?_, ?_, ?_⟩
   ·refine ⟨(lname_any g hg0.1 v0).mono fun e v1 ⟨he, kk1⟩ => ⟨_, he, kc0.trans kk1, ?_⟩⟩
    have kc1 := kc0.trans kk1
    refine ⟨?_, ?_, ?_⟩
    ·refine ⟨(lauthor_any a v1).mono fun e v2 ⟨he, kk2⟩ => ⟨_, he, ?_⟩⟩
     have kc2 := kc1.trans kk2
     refine ⟨?_, ?_⟩
     ·intro n1 v3 hb3
      have kc3 := kc2.trans (hb3.kp (fun _ => False))
      have gX := Nat.le_trans kc2.size hb3.ge
      refine ⟨kc3, ?_⟩
      have cX3 := hb3.block
      intro n2 v4 hb4
      have kc4 := kc3.trans (hb4.kp (fun _ => False))
      have gY := Nat.le_trans kc3.size hb4.ge
      refine ⟨kc4, ?_⟩
      have cY4 := hb4.block
      have cX4 := (hb4.kp (fun _ => False)).blk cX3 (fun h => h)
      exact dofin kc4 gX gY cX4 rfl cY4 rfl (fun w2 kk a1 a2 => ⟨n1, n2, rfl, a1, a2, hkW.trans kk⟩)
     ·intro n2 v3 hb3
      have kc3 := kc2.trans (hb3.kp (fun _ => False))
      have gY := Nat.le_trans kc2.size hb3.ge
      refine ⟨kc3, ?_⟩
      have cY3 := hb3.block
      intro n1 v4 hb4
      have kc4 := kc3.trans (hb4.kp (fun _ => False))
      have gX := Nat.le_trans kc3.size hb4.ge
      refine ⟨kc4, ?_⟩
      have cX4 := hb4.block
      have cY4 := (hb4.kp (fun _ => False)).blk cY3 (fun h => h)
      exact dofin kc4 gX gY cX4 rfl cY4 rfl (fun w2 kk a1 a2 => ⟨n1, n2, rfl, a1, a2, hkW.trans kk⟩)
    ·intro n1 v2 hb2
     have kc2 := kc1.trans (hb2.kp (fun _ => False))
     have gX := Nat.le_trans kc1.size hb2.ge
     refine ⟨kc2, ?_⟩
     have cX2 := hb2.block
     refine ⟨?_, ?_⟩
     ·refine ⟨(lauthor_any a v2).mono fun e v3 ⟨he, kk3⟩ => ⟨_, he, ?_⟩⟩
      have kc3 := kc2.trans kk3
      have cX3 := kk3.blk cX2 (fun h => h)
      intro n2 v4 hb4
      have kc4 := kc3.trans (hb4.kp (fun _ => False))
      have gY := Nat.le_trans kc3.size hb4.ge
      refine ⟨kc4, ?_⟩
      have cY4 := hb4.block
      have cX4 := (hb4.kp (fun _ => False)).blk cX3 (fun h => h)
      exact dofin kc4 gX gY cX4 rfl cY4 rfl (fun w2 kk a1 a2 => ⟨n1, n2, rfl, a1, a2, hkW.trans kk⟩)
     ·intro n2 v3 hb3
      have kc3 := kc2.trans (hb3.kp (fun _ => False))
      have gY := Nat.le_trans kc2.size hb3.ge
      refine ⟨kc3, ?_⟩
      have cY3 := hb3.block
      have cX3 := (hb3.kp (fun _ => False)).blk cX2 (fun h => h)
      refine ⟨(lauthor_any a v3).mono fun e v4 ⟨he, kk4⟩ => ⟨_, he, ?_⟩⟩
      have kc4 := kc3.trans kk4
      have cX4 := kk4.blk cX3 (fun h => h)
      have cY4 := kk4.blk cY3 (fun h => h)
      exact dofin kc4 gX gY cX4 rfl cY4 rfl (fun w2 kk a1 a2 => ⟨n1, n2, rfl, a1, a2, hkW.trans kk⟩)
    ·intro n2 v2 hb2
     have kc2 := kc1.trans (hb2.kp (fun _ => False))
     have gY := Nat.le_trans kc1.size hb2.ge
     refine ⟨kc2, ?_⟩
     have cY2 := hb2.block
     refine ⟨?_, ?_⟩
     ·refine ⟨(lauthor_any a v2).mono fun e v3 ⟨he, kk3⟩ => ⟨_, he, ?_⟩⟩
      have kc3 := kc2.trans kk3
      have cY3 := kk3.blk cY2 (fun h => h)
      intro n1 v4 hb4
      have kc4 := kc3.trans (hb4.kp (fun _ => False))
      have gX := Nat.le_trans kc3.size hb4.ge
      refine ⟨kc4, ?_⟩
      have cX4 := hb4.block
      have cY4 := (hb4.kp (fun _ => False)).blk cY3 (fun h => h)
      exact dofin kc4 gX gY cX4 rfl cY4 rfl (fun w2 kk a1 a2 => ⟨n1, n2, rfl, a1, a2, hkW.trans kk⟩)
     ·intro n1 v3 hb3
      have kc3 := kc2.trans (hb3.kp (fun _ => False))
      have gX := Nat.le_trans kc2.size hb3.ge
      refine ⟨kc3, ?_⟩
      have cX3 := hb3.block
      have cY3 := (hb3.kp (fun _ => False)).blk cY2 (fun h => h)
      refine ⟨(lauthor_any a v3).mono fun e v4 ⟨he, kk4⟩ => ⟨_, he, ?_⟩⟩
      have kc4 := kc3.trans kk4
      have cX4 := kk4.blk cX3 (fun h => h)
      have cY4 := kk4.blk cY3 (fun h => h)
      exact dofin kc4 gX gY cX4 rfl cY4 rfl (fun w2 kk a1 a2 => ⟨n1, n2, rfl, a1, a2, hkW.trans kk⟩)
   ·intro n1 v1 hb1
    have kc1 := kc0.trans (hb1.kp (fun _ => False))
    have gX := Nat.le_trans kc0.size hb1.ge
    refine ⟨kc1, ?_⟩
    have cX1 := hb1.block
    refine ⟨?_, ?_⟩
    ·refine ⟨(lname_any g hg0.1 v1).mono fun e v2 ⟨he, kk2⟩ => ⟨_, he, kc1.trans kk2, ?_⟩⟩
     have kc2 := kc1.trans kk2
     have cX2 := kk2.blk cX1 (fun h => h)
     refine ⟨?_, ?_⟩
     ·refine ⟨(lauthor_any a v2).mono fun e v3 ⟨he, kk3⟩ => ⟨_, he, ?_⟩⟩
      have kc3 := kc2.trans kk3
      have cX3 := kk3.blk cX2 (fun h => h)
      intro n2 v4 hb4
      have kc4 := kc3.trans (hb4.kp (fun _ => False))
      have gY := Nat.le_trans kc3.size hb4.ge
      refine ⟨kc4, ?_⟩
      have cY4 := hb4.block
      have cX4 := (hb4.kp (fun _ => False)).blk cX3 (fun h => h)
      exact dofin kc4 gX gY cX4 rfl cY4 rfl (fun w2 kk a1 a2 => ⟨n1, n2, rfl, a1, a2, hkW.trans kk⟩)
     ·intro n2 v3 hb3
      have kc3 := kc2.trans (hb3.kp (fun _ => False))
      have gY := Nat.le_trans kc2.size hb3.ge
      refine ⟨kc3, ?_⟩
      have cY3 := hb3.block
      have cX3 := (hb3.kp (fun _ => False)).blk cX2 (fun h => h)
      refine ⟨(lauthor_any a v3).mono fun e v4 ⟨he, kk4⟩ => ⟨_, he, ?_⟩⟩
      have kc4 := kc3.trans kk4
      have cX4 := kk4.blk cX3 (fun h => h)
      have cY4 := kk4.blk cY3 (fun h => h)
      exact dofin kc4 gX gY cX4 rfl cY4 rfl (fun w2 kk a1 a2 => ⟨n1, n2, rfl, a1, a2, hkW.trans kk⟩)
    ·intro n2 v2 hb2
     have kc2 := kc1.trans (hb2.kp (fun _ => False))
     have gY := Nat.le_trans kc1.size hb2.ge
     refine ⟨kc2, ?_⟩
     have cY2 := hb2.block
     have cX2 := (hb2.kp (fun _ => False)).blk cX1 (fun h => h)
     refine ⟨(lname_any g hg0.1 v2).mono fun e v3 ⟨he, kk3⟩ => ⟨_, he, kc2.trans kk3, ?_⟩⟩
     have kc3 := kc2.trans kk3
     have cX3 := kk3.blk cX2 (fun h => h)
     have cY3 := kk3.blk cY2 (fun h => h)
     refine ⟨(lauthor_any a v3).mono fun e v4 ⟨he, kk4⟩ => ⟨_, he, ?_⟩⟩
     have kc4 := kc3.trans kk4
     have cX4 := kk4.blk cX3 (fun h => h)
     have cY4 := kk4.blk cY3 (fun h => h)
     exact dofin kc4 gX gY cX4 rfl cY4 rfl (fun w2 kk a1 a2 => ⟨n1, n2, rfl, a1, a2, hkW.trans kk⟩)
   ·intro n2 v1 hb1
    have kc1 := kc0.trans (hb1.kp (fun _ => False))
    have gY := Nat.le_trans kc0.size hb1.ge
    refine ⟨kc1, ?_⟩
    have cY1 := hb1.block
    refine ⟨?_, ?_⟩
    ·refine ⟨(lname_any g hg0.1 v1).mono fun e v2 ⟨he, kk2⟩ => ⟨_, he, kc1.trans kk2, ?_⟩⟩
     have kc2 := kc1.trans kk2
     have cY2 := kk2.blk cY1 (fun h => h)
     refine ⟨?_, ?_⟩
     ·refine ⟨(lauthor_any a v2).mono fun e v3 ⟨he, kk3⟩ => ⟨_, he, ?_⟩⟩
      have kc3 := kc2.trans kk3
      have cY3 := kk3.blk cY2 (fun h => h)
      intro n1 v4 hb4
      have kc4 := kc3.trans (hb4.kp (fun _ => False))
      have gX := Nat.le_trans kc3.size hb4.ge
      refine ⟨kc4, ?_⟩
      have cX4 := hb4.block
      have cY4 := (hb4.kp (fun _ => False)).blk cY3 (fun h => h)
      exact dofin kc4 gX gY cX4 rfl cY4 rfl (fun w2 kk a1 a2 => ⟨n1, n2, rfl, a1, a2, hkW.trans kk⟩)
     ·intro n1 v3 hb3
      have kc3 := kc2.trans (hb3.kp (fun _ => False))
      have gX := Nat.le_trans kc2.size hb3.ge
      refine ⟨kc3, ?_⟩
      have cX3 := hb3.block
      have cY3 := (hb3.kp (fun _ => False)).blk cY2 (fun h => h)
      refine ⟨(lauthor_any a v3).mono fun e v4 ⟨he, kk4⟩ => ⟨_, he, ?_⟩⟩
      have kc4 := kc3.trans kk4
      have cX4 := kk4.blk cX3 (fun h => h)
      have cY4 := kk4.blk cY3 (fun h => h)
      exact dofin kc4 gX gY cX4 rfl cY4 rfl (fun w2 kk a1 a2 => ⟨n1, n2, rfl, a1, a2, hkW.trans kk⟩)
    ·intro n1 v2 hb2
     have kc2 := kc1.trans (hb2.kp (fun _ => False))
     have gX := Nat.le_trans kc1.size hb2.ge
     refine ⟨kc2, ?_⟩
     have cX2 := hb2.block
     have cY2 := (hb2.kp (fun _ => False)).blk cY1 (fun h => h)
     refine ⟨(lname_any g hg0.1 v2).mono fun e v3 ⟨he, kk3⟩ => ⟨_, he, kc2.trans kk3, ?_⟩⟩
     have kc3 := kc2.trans kk3
     have cX3 := kk3.blk cX2 (fun h => h)
     have cY3 := kk3.blk cY2 (fun h => h)
     refine ⟨(lauthor_any a v3).mono fun e v4 ⟨he, kk4⟩ => ⟨_, he, ?_⟩⟩
     have kc4 := kc3.trans kk4
     have cX4 := kk4.blk cX3 (fun h => h)
     have cY4 := kk4.blk cY3 (fun h => h)
     exact dofin kc4 gX gY cX4 rfl cY4 rfl (fun w2 kk a1 a2 => ⟨n1, n2, rfl, a1, a2, hkW.trans kk⟩)
  ·intro n1 v0 hb0
   have kc0 := kW1.trans (hb0.kp (fun _ => False))
   have gX := Nat.le_trans kW1.size hb0.ge
   refine ⟨kc0, ?_⟩
   have cX0 := hb0.block
   refine ⟨?_, ?_⟩
   ·refine ⟨(lid_any i v0).mono fun e v1 ⟨he, kk1⟩ => ⟨_, he, kc0.trans kk1, ?_⟩⟩
    have kc1 := kc0.trans kk1
    have cX1 := kk1.blk cX0 (fun h => h)
    refine ⟨?_, ?_⟩
    ·refine ⟨(lname_any g hg0.1 v1).mono fun e v2 ⟨he, kk2⟩ => ⟨_, he, kc1.trans kk2, ?_⟩⟩
     have kc2 := kc1.trans kk2
     have cX2 := kk2.blk cX1 (fun h => h)
     refine ⟨?_, ?_⟩
     ·refine ⟨(lauthor_any a v2).mono fun e v3 ⟨he, kk3⟩ => ⟨_, he, ?_⟩⟩
      have kc3 := kc2.trans kk3
      have cX3 := kk3.blk cX2 (fun h => h)
      intro n2 v4 hb4
      have kc4 := kc3.trans (hb4.kp (fun _ => False))
      have gY := Nat.le_trans kc3.size hb4.ge
      refine ⟨kc4, ?_⟩
      have cY4 := hb4.block
      have cX4 := (hb4.kp (fun _ => False)).blk cX3 (fun h => h)
      exact dofin kc4 gX gY cX4 rfl cY4 rfl (fun w2 kk a1 a2 => ⟨n1, n2, rfl, a1, a2, hkW.trans kk⟩)
     ·intro n2 v3 hb3
      have kc3 := kc2.trans (hb3.kp (fun _ => False))
      have gY := Nat.le_trans kc2.size hb3.ge
      refine ⟨kc3, ?_⟩
      have cY3 := hb3.block
      have cX3 := (hb3.kp (fun _ => False)).blk cX2 (fun h => h)
      refine ⟨(lauthor_any a v3).mono fun e v4 ⟨he, kk4⟩ => ⟨_, he, ?_⟩⟩
      have kc4 := kc3.trans kk4
      have cX4 := kk4.blk cX3 (fun h => h)
      have cY4 := kk4.blk cY3 (fun h => h)
      exact dofin kc4 gX gY cX4 rfl cY4 rfl (fun w2 kk a1 a2 => ⟨n1, n2, rfl, a1, a2, hkW.trans kk⟩)
    ·intro n2 v2 hb2
     have kc2 := kc1.trans (hb2.kp (fun _ => False))
     have gY := Nat.le_trans kc1.size hb2.ge
     refine ⟨kc2, ?_⟩
     have cY2 := hb2.block
     have cX2 := (hb2.kp (fun _ => False)).blk cX1 (fun h => h)
     refine ⟨(lname_any g hg0.1 v2).mono fun e v3 ⟨he, kk3⟩ => ⟨_, he, kc2.trans kk3, ?_⟩⟩
     have kc3 := kc2.trans kk3
     have cX3 := kk3.blk cX2 (fun h => h)
     have cY3 := kk3.blk cY2 (fun h => h)
     refine ⟨(lauthor_any a v3).mono fun e v4 ⟨he, kk4⟩ => ⟨_, he, ?_⟩⟩
     have kc4 := kc3.trans kk4
     have cX4 := kk4.blk cX3 (fun h => h)
     have cY4 := kk4.blk cY3 (fun h => h)
     exact dofin kc4 gX gY cX4 rfl cY4 rfl (fun w2 kk a1 a2 => ⟨n1, n2, rfl, a1, a2, hkW.trans kk⟩)
   ·intro n2 v1 hb1
    have kc1 := kc0.trans (hb1.kp (fun _ => False))
    have gY := Nat.le_trans kc0.size hb1.ge
    refine ⟨kc1, ?_⟩
    have cY1 := hb1.block
    have cX1 := (hb1.kp (fun _ => False)).blk cX0 (fun h => h)
    refine ⟨(lid_any i v1).mono fun e v2 ⟨he, kk2⟩ => ⟨_, he, kc1.trans kk2, ?_⟩⟩
    have kc2 := kc1.trans kk2
    have cX2 := kk2.blk cX1 (fun h => h)
    have cY2 := kk2.blk cY1 (fun h => h)
    refine ⟨(lname_any g hg0.1 v2).mono fun e v3 ⟨he, kk3⟩ => ⟨_, he, kc2.trans kk3, ?_⟩⟩
    have kc3 := kc2.trans kk3
    have cX3 := kk3.blk cX2 (fun h => h)
    have cY3 := kk3.blk cY2 (fun h => h)
    refine ⟨(lauthor_any a v3).mono fun e v4 ⟨he, kk4⟩ => ⟨_, he, ?_⟩⟩
    have kc4 := kc3.trans kk4
    have cX4 := kk4.blk cX3 (fun h => h)
    have cY4 := kk4.blk cY3 (fun h => h)
    exact dofin kc4 gX gY cX4 rfl cY4 rfl (fun w2 kk a1 a2 => ⟨n1, n2, rfl, a1, a2, hkW.trans kk⟩)
  ·intro n2 v0 hb0
   have kc0 := kW1.trans (hb0.kp (fun _ => False))
   have gY := Nat.le_trans kW1.size hb0.ge
   refine ⟨kc0, ?_⟩
   have cY0 := hb0.block
   refine ⟨?_, ?_⟩
   ·refine ⟨(lid_any i v0).mono fun e v1 ⟨he, kk1⟩ => ⟨_, he, kc0.trans kk1, ?_⟩⟩
    have kc1 := kc0.trans kk1
    have cY1 := kk1.blk cY0 (fun h => h)
    refine ⟨?_, ?_⟩
    ·refine ⟨(lname_any g hg0.1 v1).mono fun e v2 ⟨he, kk2⟩ => ⟨_, he, kc1.trans kk2, ?_⟩⟩
     have kc2 := kc1.trans kk2
     have cY2 := kk2.blk cY1 (fun h => h)
     refine ⟨?_, ?_⟩
     ·refine ⟨(lauthor_any a v2).mono fun e v3 ⟨he, kk3⟩ => ⟨_, he, ?_⟩⟩
      have kc3 := kc2.trans kk3
      have cY3 := kk3.blk cY2 (fun h => h)
      intro n1 v4 hb4
      have kc4 := kc3.trans (hb4.kp (fun _ => False))
      have gX := Nat.le_trans kc3.size hb4.ge
      refine ⟨kc4, ?_⟩
      have cX4 := hb4.block
      have cY4 := (hb4.kp (fun _ => False)).blk cY3 (fun h => h)
      exact dofin kc4 gX gY cX4 rfl cY4 rfl (fun w2 kk a1 a2 => ⟨n1, n2, rfl, a1, a2, hkW.trans kk⟩)
     ·intro n1 v3 hb3
      have kc3 := kc2.trans (hb3.kp (fun _ => False))
      have gX := Nat.le_trans kc2.size hb3.ge
      refine ⟨kc3, ?_⟩
      have cX3 := hb3.block
      have cY3 := (hb3.kp (fun _ => False)).blk cY2 (fun h => h)
      refine ⟨(lauthor_any a v3).mono fun e v4 ⟨he, kk4⟩ => ⟨_, he, ?_⟩⟩
      have kc4 := kc3.trans kk4
      have cX4 := kk4.blk cX3 (fun h => h)
      have cY4 := kk4.blk cY3 (fun h => h)
      exact dofin kc4 gX gY cX4 rfl cY4 rfl (fun w2 kk a1 a2 => ⟨n1, n2, rfl, a1, a2, hkW.trans kk⟩)
    ·intro n1 v2 hb2
     have kc2 := kc1.trans (hb2.kp (fun _ => False))
     have gX := Nat.le_trans kc1.size hb2.ge
     refine ⟨kc2, ?_⟩
     have cX2 := hb2.block
     have cY2 := (hb2.kp (fun _ => False)).blk cY1 (fun h => h)
     refine ⟨(lname_any g hg0.1 v2).mono fun e v3 ⟨he, kk3⟩ => ⟨_, he, kc2.trans kk3, ?_⟩⟩
     have kc3 := kc2.trans kk3
     have cX3 := kk3.blk cX2 (fun h => h)
     have cY3 := kk3.blk cY2 (fun h => h)
     refine ⟨(lauthor_any a v3).mono fun e v4 ⟨he, kk4⟩ => ⟨_, he, ?_⟩⟩
     have kc4 := kc3.trans kk4
     have cX4 := kk4.blk cX3 (fun h => h)
     have cY4 := kk4.blk cY3 (fun h => h)
     exact dofin kc4 gX gY cX4 rfl cY4 rfl (fun w2 kk a1 a2 => ⟨n1, n2, rfl, a1, a2, hkW.trans kk⟩)
   ·intro n1 v1 hb1
    have kc1 := kc0.trans (hb1.kp (fun _ => False))
    have gX := Nat.le_trans kc0.size hb1.ge
    refine ⟨kc1, ?_⟩
    have cX1 := hb1.block
    have cY1 := (hb1.kp (fun _ => False)).blk cY0 (fun h => h)
    refine ⟨(lid_any i v1).mono fun e v2 ⟨he, kk2⟩ => ⟨_, he, kc1.trans kk2, ?_⟩⟩
    have kc2 := kc1.trans kk2
    have cX2 := kk2.blk cX1 (fun h => h)
    have cY2 := kk2.blk cY1 (fun h => h)
    refine ⟨(lname_any g hg0.1 v2).mono fun e v3 ⟨he, kk3⟩ => ⟨_, he, kc2.trans kk3, ?_⟩⟩
    have kc3 := kc2.trans kk3
    have cX3 := kk3.blk cX2 (fun h => h)
    have cY3 := kk3.blk cY2 (fun h => h)
    refine ⟨(lauthor_any a v3).mono fun e v4 ⟨he, kk4⟩ => ⟨_, he, ?_⟩⟩
    have kc4 := kc3.trans kk4
    have cX4 := kk4.blk cX3 (fun h => h)
    have cY4 := kk4.blk cY3 (fun h => h)
    exact dofin kc4 gX gY cX4 rfl cY4 rfl (fun w2 kk a1 a2 => ⟨n1, n2, rfl, a1, a2, hkW.trans kk⟩)
 rintro xs x1 x2 w3 ⟨n1, n2, hv, c1, c2, k3⟩ hL
 simp only [List.cons.injEq, Value.string.injEq, Value.pointer.injEq, and_true] at hv
 obtain ⟨rfl, rfl, rfl⟩ := hv
 have ds : DS39 n n1 n2 [.int .u8 k, .int .u8 i, .int .u8 g, .int .u8 a, .int .i64 now, .string t] i a w3 := ⟨hL.cells 0 rfl, c1, c2⟩
 clear hW hL c1 c2
 have h3 := h.k0 k3
 have kd3 : KD w w3 := .k0 k3
 have hid := idN_ok hi0.1
 have hau := auN_ok ha0.1
 have hgs := nmG_sz g
 have ql : q.es.length <= 10000 := by have := r.ql; omega
 have om := r.mo (by omega)
 have htx := txO_sz t
 rw [txO_eq]
 have hm8 : 0 <= k.tmod 8 /\ k.tmod 8 < 8 := by rw [Int.tmod_eq_emod_of_nonneg hk0]; omega
 have kp : ∀ {wa wb : World}, DS39 n n1 n2 [.int .u8 k, .int .u8 i, .int .u8 g, .int .u8 a, .int .i64 now, .string t] i a wa -> KD wa wb -> KeptL [n] wa wb := fun d kk => kk.kept (fun z hz => by
  rcases List.mem_singleton.1 hz with rfl
  exact ⟨_, _, _, d.1, rfl⟩)
 refine ⟨⟨by split <;> omega, by split <;> omega⟩, ?_⟩
 refine bsp_intro (fun hk => ?_) (fun hk0' => bsp_intro (fun hk => ?_) (fun hk1 => bsp_intro (fun hk => ?_) (fun hk2 => bsp_intro (fun hk => ?_) (fun hk3 => bsp_intro (fun hk => ?_) (fun hk4 => bsp_intro (fun hk => ?_) (fun hk5 => bsp_intro (fun hk => ?_) (fun hk6 => ?_)))))))
 ·-- submit
  have hk : k.tmod 8 = 0 := by simpa using hk
  intro W4 hW4
  have k4 : K0 w3 W4 := hW4.kk rfl
  have d4 := ds.kd (.k0 k4)
  have h4 := h3.k0 k4
  clear hW4
  refine ⟨DS39 n n1 n2 _ i a, d4, nn_is rfl ⟨idN i, fun wx hx => AtL_block hx.2.1 rfl, now, fun wx hx => cell_at hx.1 rfl, nn_is rfl ⟨idN i, fun wx hx => AtL_block hx.2.1 rfl, now, fun wx hx => cell_at hx.1 rfl, ?_⟩⟩⟩
  refine ⟨(submit_any h4.mq r.qo (idN i) hid.1 (nmG g) (txO t) now (h4.gw hG)).mono fun e w5 ⟨he, hq5, k5⟩ => ?_⟩
  have kd5 := h4.mq.kd k5
  have h5 := h4.qop hq5 k5 (subQ_ms ..)
  refine ⟨_, he, d4.kd kd5, ⟨(xsubmit_any h5.mr om r.srt (idN i) hid.1 (nmG g) (txO t) now).mono fun e w6 ⟨he, hx, k6⟩ => ⟨_, he, kp d4 (kd5.trans (.mf k6)), ?_⟩⟩⟩
  have kd6 : KD w w6 := ((kd3.trans (.k0 k4)).trans kd5).trans (.mf k6)
  refine ⟨by rw [r.subE]; simp, ?_⟩
  rcases hx with ⟨hne, hM6⟩ | ⟨h0, L, P6, hp, hs, hM6⟩
  ·exact ⟨_, M, P, h5.mop hM6 k6, r.sub_no hne, by unfold stpM; rw [hk]; exact .inr ⟨hne, rfl⟩, kd6⟩
  ·exact ⟨_, _, P6, h5.mop hM6 k6, r.ins hid h0 hp hs, by unfold stpM; rw [hk]; exact .inl ⟨h0, L, hp, rfl⟩, kd6⟩
 ·-- claim
  have hk : k.tmod 8 = 1 := by simpa using hk
  refine ⟨fun vs wx => ∃ (nq : Nat) (q' : Qu), vs = [.int .i64 (xclE M (nmG g) (auN a) now), .pointer (some ⟨nq, 0, none⟩)] /\ wx.heap[nq]? = some (.cells (sbC (xclS M (nmG g) (auN a) now)).toArray 48 (0, 0)) /\ SW w0 wx b mb eb m q' M P /\ Rq n0 q' (xclM M (nmG g) (auN a) now) /\ DS39 n n1 n2 [.int .u8 k, .int .u8 i, .int .u8 g, .int .u8 a, .int .i64 now, .string t] i a wx /\ KD w wx, nn_is rfl ⟨auN a, AtL_block ds.2.2 rfl, ⟨(claim_any h3.mq r.qo (by omega) (nmG g) hgs (auN a) hau.1 now (h3.gw hG)).mono fun e w4 hcl => ?_⟩⟩, ?_⟩
  ·rw [r.clE] at hcl
   rcases hcl with ⟨hne, he, k4⟩ | ⟨h0, x, hx, hmin, he, hq4, k4⟩
   ·obtain ⟨eM, eS⟩ := xclM_no hne
    rw [eM, eS]
    refine ⟨sbz.id, sbz.g, sbz.tx, sbz.r, sbz.st, sbz.mo, sbz.de, sbz.rs, _, he, .of_k0 k4, fun nq W5 hW5 => ?_⟩
    have k5 := k4.trans (hW5.kk rfl : K0 w4 W5)
    exact ⟨nq, q, rfl, hW5.cells 1 rfl, h3.k0 k5, r, ds.kd (.k0 k5), kd3.trans (.k0 k5)⟩
   ·obtain ⟨ex, rx⟩ := r.clm hau h0 hx hmin
    rw [<- ex, h0]
    have kd4 := h3.mq.kd k4
    have h4 := h3.qop hq4 k4 rfl
    refine ⟨x.id, x.g, x.tx, x.r, x.st, x.mo, x.de, x.rs, _, he, kp ds kd4, fun nq W5 hW5 => ?_⟩
    have k5 : K0 w4 W5 := hW5.kk rfl
    exact ⟨nq, _, rfl, hW5.cells 1 rfl, h4.k0 k5, rx, (ds.kd kd4).kd (.k0 k5), (kd3.trans kd4).trans (.k0 k5)⟩
  rintro x3 x4 w5 ⟨nq, q', hv, cq, h5, r5, d5, kd5⟩ _
  simp only [List.cons.injEq, Value.int.injEq, Value.pointer.injEq, true_and, and_true] at hv
  obtain ⟨rfl, rfl⟩ := hv
  refine ⟨fun vs wx => ∃ (nm : Nat), vs = [.int .i64 (xclE M (nmG g) (auN a) now), .pointer (some ⟨nm, 0, none⟩)] /\ wx.heap[nm]? = some (.cells (sbC (xclS M (nmG g) (auN a) now)).toArray 48 (0, 0)) /\ wx.heap[nq]? = some (.cells (sbC (xclS M (nmG g) (auN a) now)).toArray 48 (0, 0)) /\ SW w0 wx b mb eb m q' (xclM M (nmG g) (auN a) now) P /\ KD w wx, nn_is rfl ⟨auN a, AtL_block d5.2.2 rfl, ⟨(xclaim_any h5.mr om (nmG g) (auN a) hau.1 now).mono fun e w6 ⟨he, hM6, k6⟩ => ?_⟩⟩, ?_⟩
  ·have kd6 : KD w5 w6 := .mf k6
   refine ⟨(xclS M (nmG g) (auN a) now).id, (xclS M (nmG g) (auN a) now).g, (xclS M (nmG g) (auN a) now).tx, (xclS M (nmG g) (auN a) now).r, (xclS M (nmG g) (auN a) now).st, (xclS M (nmG g) (auN a) now).mo, (xclS M (nmG g) (auN a) now).de, (xclS M (nmG g) (auN a) now).rs, _, he, kp d5 kd6, fun nm W7 hW7 => ?_⟩
   have k7 : K0 w6 W7 := hW7.kk rfl
   exact ⟨nm, rfl, hW7.cells 1 rfl, k7.blk (kd6.2 _ _ _ _ cq rfl) (fun h => h), (h5.mop hM6 k6).k0 k7, (kd5.trans kd6).trans (.k0 k7)⟩
  rintro x6 x7 w8 ⟨nm, hv, cm, cq8, h8, kd8⟩ _
  simp only [List.cons.injEq, Value.int.injEq, Value.pointer.injEq, true_and, and_true] at hv
  obtain ⟨rfl, rfl⟩ := hv
  have oS := xclS_ok om (nmG g) (auN a) now
  have hstp : stpM k i g a now t M (xclM M (nmG g) (auN a) now) := by unfold stpM; rw [hk]; rfl
  generalize xclS M (nmG g) (auN a) now = S at cm cq8 oS
  refine nn_is rfl ⟨S.id, S.g, S.tx, S.r, S.st, S.mo, S.de, S.rs, AtL_block cq8 rfl, nn_is rfl ⟨S.id, S.g, S.tx, S.r, S.st, S.mo, S.de, S.rs, AtL_block cm rfl, _, sbEq oS oS, by simp, q', _, P, h8, r5.mono (by omega), hstp, kd8⟩⟩
 ·-- release
  have hk : k.tmod 8 = 2 := by simpa using hk
  intro W4 hW4
  have k4 : K0 w3 W4 := hW4.kk rfl
  have d4 := ds.kd (.k0 k4)
  have h4 := h3.k0 k4
  clear hW4
  refine ⟨DS39 n n1 n2 _ i a, d4, nn_is rfl ⟨idN i, fun wx hx => AtL_block hx.2.1 rfl, nn_is rfl ⟨auN a, fun wx hx => AtL_block hx.2.2 rfl, now, fun wx hx => cell_at hx.1 rfl, nn_is rfl ⟨idN i, fun wx hx => AtL_block hx.2.1 rfl, nn_is rfl ⟨auN a, fun wx hx => AtL_block hx.2.2 rfl, now, fun wx hx => cell_at hx.1 rfl, ?_⟩⟩⟩⟩⟩
  refine ⟨(release_any h4.mq r.qo (idN i) hid.1 (nmG g) hgs (auN a) hau.1 now).mono fun e w5 ⟨he, hq5, k5⟩ => ?_⟩
  have kd5 := h4.mq.kd k5
  have h5 := h4.qop hq5 k5 (relQ_ms ..)
  refine ⟨_, he, d4.kd kd5, ⟨(xrelease_any h5.mr om (idN i) hid.1 (nmG g) (auN a) hau.1 now).mono fun e w6 ⟨he, hM6, k6⟩ => ⟨_, he, kp d4 (kd5.trans (.mf k6)), ?_⟩⟩⟩
  have kd6 : KD w w6 := ((kd3.trans (.k0 k4)).trans kd5).trans (.mf k6)
  exact ⟨by rw [r.rlE]; simp, _, _, P, h5.mop hM6 k6, (r.rel (idN i) (nmG g) (auN a) now).mono (by omega), by unfold stpM; rw [hk]; rfl, kd6⟩
 ·-- approve
  have hk : k.tmod 8 = 3 := by simpa using hk
  obtain ⟨kk, ff, gg, hff, hcm⟩ := cmd_of (apE q (idN i) (nmG g) (auN a) now) hid.1 (nmG g)
  refine ⟨fun vs wx => ∃ (nc : Nat), vs = [.int .i64 (apE q (idN i) (nmG g) (auN a) now), .pointer (some ⟨nc, 0, none⟩)] /\ wx.heap[nc]? = some (.cells (apC kk ff gg).toArray 42 (0, 0)) /\ SW w0 wx b mb eb m (apQ q (idN i) (nmG g) (auN a) now 1 ⟨#[]⟩) M P /\ DS39 n n1 n2 [.int .u8 k, .int .u8 i, .int .u8 g, .int .u8 a, .int .i64 now, .string t] i a wx /\ KD w wx, nn_is rfl ⟨idN i, AtL_block ds.2.1 rfl, nn_is rfl ⟨auN a, AtL_block ds.2.2 rfl, ⟨(approve_any h3.mq r.qo ql (idN i) hid.1 (nmG g) hgs (auN a) hau.1 now).mono fun e w4 ⟨he, hq4, k4⟩ => ?_⟩⟩⟩, ?_⟩
  ·rw [hcm] at he
   have kd4 := h3.mq.kd k4
   have h4 := h3.qop hq4 k4 (apQ_ms ..)
   refine ⟨kk, ff, gg, 0, false, none, 0, 0, ⟨#[]⟩, 0, 0, (fun _ => 0), _, he, kp ds kd4, fun nc W5 hW5 => ?_⟩
   have k5 : K0 w4 W5 := hW5.kk rfl
   exact ⟨nc, rfl, hW5.cells 1 rfl, h4.k0 k5, (ds.kd kd4).kd (.k0 k5), (kd3.trans kd4).trans (.k0 k5)⟩
  rintro x3 x4 w5 ⟨nc, hv, cc, h5, d5, kd5⟩ _
  simp only [List.cons.injEq, Value.int.injEq, Value.pointer.injEq, true_and, and_true] at hv
  obtain ⟨rfl, rfl⟩ := hv
  refine ⟨fun vs wx => vs = [.int .i64 (xdcE M (idN i) (nmG g) (auN a) 1 ⟨#[]⟩ now)] /\ wx.heap[nc]? = some (.cells (apC kk ff gg).toArray 42 (0, 0)) /\ SW w0 wx b mb eb m (apQ q (idN i) (nmG g) (auN a) now 1 ⟨#[]⟩) (xdcM M (idN i) (nmG g) (auN a) 1 ⟨#[]⟩ now) P /\ DS39 n n1 n2 [.int .u8 k, .int .u8 i, .int .u8 g, .int .u8 a, .int .i64 now, .string t] i a wx /\ KD w wx, nn_is rfl ⟨idN i, AtL_block d5.2.1 rfl, nn_is rfl ⟨auN a, AtL_block d5.2.2 rfl, ⟨(xdecide_any h5.mr om (idN i) hid.1 (nmG g) (auN a) hau.1 1 ⟨#[]⟩ (by decide) now).mono fun e w6 ⟨he, hM6, k6⟩ => ?_⟩⟩⟩, ?_⟩
  ·have kd6 : KD w5 w6 := .mf k6
   exact ⟨_, he, kp d5 kd6, rfl, kd6.2 _ _ _ _ cc rfl, h5.mop hM6 k6, d5.kd kd6, kd5.trans kd6⟩
  rintro x6 w7 ⟨hv, cc7, h7, d7, kd7⟩ _ W8 hW8
  simp only [List.cons.injEq, Value.int.injEq, true_and, and_true] at hv
  subst hv
  have k8 : K0 w7 W8 := hW8.kk rfl
  have cc8 := k8.blk cc7 (fun h => h)
  have d8 := d7.kd (.k0 k8)
  have h8 := h7.k0 k8
  have kd8 := kd7.trans (.k0 k8)
  clear hW8
  rw [r.apE] at hcm ⊢
  have hbb : (xdcE M (idN i) (nmG g) (auN a) 1 ⟨#[]⟩ now == xdcE M (idN i) (nmG g) (auN a) 1 ⟨#[]⟩ now) = true := by simp
  simp only [hbb]
  refine ⟨fun wx => wx.heap[nc]? = some (.cells (apC kk ff gg).toArray 42 (0, 0)) /\ DS39 n n1 n2 [.int .u8 k, .int .u8 i, .int .u8 g, .int .u8 a, .int .i64 now, .string t] i a wx, ⟨cc8, d8⟩, nn_is rfl ⟨kk, ff, gg, 0, false, none, 0, 0, ⟨#[]⟩, 0, 0, (fun _ => 0), gimp_intro fun _ wx hx => AtL_block hx.1 rfl, nn_is rfl ⟨idN i, gimp_intro fun _ wx hx => AtL_block hx.2.2.1 rfl, bsp_intro (fun _ => ?_) (fun h => by cases h)⟩⟩⟩
  refine ⟨(xcomm_any (idN i) (nmG g) (xdcE M (idN i) (nmG g) (auN a) 1 ⟨#[]⟩ now) W8).mono fun e w9 ⟨he, k9⟩ => ?_⟩
  rw [hcm] at he
  refine ⟨kk, ff, gg, 0, false, none, 0, 0, ⟨#[]⟩, 0, 0, (fun _ => 0), he, ⟨k9.blk cc8 (fun h => h), d8.kd (.k0 k9)⟩, ⟨(ceq_any kk ff hff gg w9).mono fun e w10 ⟨he, k10⟩ => ⟨_, he, .of_k0 (k9.trans k10), rfl, _, _, P, h8.k0 (k9.trans k10), r.ap hau |>.mono (by omega), by unfold stpM; rw [hk]; rfl, kd8.trans (.k0 (k9.trans k10))⟩⟩⟩
 ·-- reject
  have hk : k.tmod 8 = 4 := by simpa using hk
  intro W4 hW4
  have k4 : K0 w3 W4 := hW4.kk rfl
  have d4 := ds.kd (.k0 k4)
  have h4 := h3.k0 k4
  clear hW4
  refine ⟨DS39 n n1 n2 _ i a, d4, nn_is rfl ⟨idN i, fun wx hx => AtL_block hx.2.1 rfl, nn_is rfl ⟨auN a, fun wx hx => AtL_block hx.2.2 rfl, now, fun wx hx => cell_at hx.1 rfl, nn_is rfl ⟨idN i, fun wx hx => AtL_block hx.2.1 rfl, nn_is rfl ⟨auN a, fun wx hx => AtL_block hx.2.2 rfl, now, fun wx hx => cell_at hx.1 rfl, ?_⟩⟩⟩⟩⟩
  refine ⟨(reject_any h4.mq r.qo ql (idN i) hid.1 (nmG g) hgs (auN a) hau.1 (txO t) now).mono fun e w5 ⟨he, hq5, k5⟩ => ?_⟩
  have kd5 := h4.mq.kd k5
  have h5 := h4.qop hq5 k5 (rejQ_ms ..)
  refine ⟨_, he, d4.kd kd5, ⟨(xdecide_any h5.mr om (idN i) hid.1 (nmG g) (auN a) hau.1 2 (txO t) (by omega) now).mono fun e w6 ⟨he, hM6, k6⟩ => ⟨_, he, kp d4 (kd5.trans (.mf k6)), ?_⟩⟩⟩
  have kd6 : KD w w6 := ((kd3.trans (.k0 k4)).trans kd5).trans (.mf k6)
  exact ⟨by rw [r.rjE]; simp, _, _, P, h5.mop hM6 k6, r.rj hau |>.mono (by omega), by unfold stpM; rw [hk]; rfl, kd6⟩
 ·-- lapse
  have hk : k.tmod 8 = 5 := by simpa using hk
  intro W4 hW4
  have k4 : K0 w3 W4 := hW4.kk rfl
  have d4 := ds.kd (.k0 k4)
  have h4 := h3.k0 k4
  clear hW4
  have oL := xlpL_ok om now
  have hlL : (xlpL M now).length <= 1000000 := by
   have := r.el
   unfold xlpL
   split
   ·rw [List.length_map]
    have := List.length_filter_le (lapP (now - M.days * 1440)) M.es
    omega
   ·show 0 <= _; omega
  refine ⟨DS39 n n1 n2 _ i a, d4, now, fun wx hx => cell_at hx.1 rfl, now, fun wx hx => cell_at hx.1 rfl, ⟨(lapse_any h4.mq r.qo ql now (h4.gw hG)).mono fun e w5 hla => ?_⟩⟩
  have key : ∃ (p : Option Addr) (c : Nat) (q5 : Qu), e = .returned (.slice p (xlpL M now).length c) /\ RowA sbC 54 w5 p (xlpL M now) /\ (∀ g' o, p = some ⟨g', o, none⟩ -> ∃ cc ff, w5.heap[g']? = some (.cells cc 48 ff)) /\ SW w0 w5 b mb eb m q5 M P /\ Rq n0 q5 (xlpM M now) /\ KD W4 w5 := by
   rcases hla with ⟨hm, he, _, k5⟩ | ⟨hm, p, c, L, he, hp, hs, ho, hq5, k5⟩
   ·have e1 : xlpL M now = [] := by unfold xlpL; rw [if_neg (by rw [hm]; decide)]
    have e2 : xlpM M now = M := by unfold xlpM; rw [if_neg (by rw [hm]; decide)]
    rw [e1, e2]
    exact ⟨none, 0, q, he, RowA.nil, (fun g' o e => by cases e), h4.k0 k5, r, .k0 k5⟩
   ·obtain ⟨e1, r5⟩ := r.lap hm hp hs
    have hl : L.length = (xlpL M now).length := by rw [<- e1, List.length_map]
    rw [e1, hl] at ho
    rw [hl] at he
    refine ⟨p, c, _, he, RowA.own ho sbC_length (by decide), fun g' o e => ?_, h4.qop hq5 k5 (finA_ms ..), r5, h4.mq.kd k5⟩
    subst e
    obtain ⟨cc, hcc⟩ := own_type ho (k := g') rfl
    exact ⟨cc, _, hcc⟩
  obtain ⟨p, c, q5, he, hR5, hT5, h5, r5, kd5⟩ := key
  refine ⟨_, _, _, he, d4.kd kd5, ⟨(xlapse_any h5.mr om now).mono fun e w6 ⟨⟨p6, c6, he, ho6⟩, hM6, k6⟩ => ?_⟩⟩
  have kd6 : KD w5 w6 := .mf k6
  have hR6 : RowA sbC 54 w6 p (xlpL M now) := fun jj y hy => by
   obtain ⟨bb, oo, h1, h2⟩ := hR5 jj y hy
   obtain ⟨cc, ff, hcc⟩ := hT5 bb oo h1
   exact ⟨bb, oo, h1, ⟨At_of _ _ fun jx u hu => k6.cell' (h2.cell hu) (mf_no hcc (by decide))⟩⟩
  refine ⟨_, _, _, he, ⟨(xsame_any (xlpL M now) p p6 c c6 w6 hR6 (RowA.own ho6 sbC_length (by decide)) hlL oL).mono fun e w7 ⟨he, k7⟩ => ⟨_, he, kp d4 ((kd5.trans kd6).trans (.k0 k7)), rfl, q5, _, P, (h5.mop hM6 k6).k0 k7, r5.mono (by omega), by unfold stpM; rw [hk]; rfl, (((kd3.trans (.k0 k4)).trans kd5).trans kd6).trans (.k0 k7)⟩⟩⟩
 ·-- forget
  have hk : k.tmod 8 = 6 := by simpa using hk
  intro W4 hW4
  have k4 : K0 w3 W4 := hW4.kk rfl
  have d4 := ds.kd (.k0 k4)
  have h4 := h3.k0 k4
  clear hW4
  refine ⟨DS39 n n1 n2 _ i a, d4, now, fun wx hx => cell_at hx.1 rfl, now, fun wx hx => cell_at hx.1 rfl, ⟨(forget_any h4.mq r.qo ql now).mono fun e w5 ⟨⟨L, he, hp, hq5⟩, k5⟩ => ?_⟩⟩
  obtain ⟨hl, r5⟩ := r.fgt hp
  have kd5 := h4.mq.kd k5
  have h5 := h4.qop hq5 k5 (delA_ms ..)
  refine ⟨_, he, d4.kd kd5, ⟨(xforget_any h5.mr (by have := r.el; omega) now).mono fun e w6 ⟨he, ⟨P6, hM6⟩, k6⟩ => ⟨_, he, kp d4 (kd5.trans (.mf k6)), ?_⟩⟩⟩
  have kd6 : KD w w6 := ((kd3.trans (.k0 k4)).trans kd5).trans (.mf k6)
  exact ⟨by rw [hl]; simp, _, _, P6, h5.mop hM6 k6, r5.mono (by omega), by unfold stpM; rw [hk]; rfl, kd6⟩
 ·-- the moderators
  have hk : k.tmod 8 = 7 := by
   simp only [beq_eq_false_iff_ne, ne_eq] at hk0' hk1 hk2 hk3 hk4 hk5 hk6
   omega
  have ha12 : (IntKind.i64.wrap a).tmod 12 = ((a.tmod 12).toNat : Int) := by
   rw [wr64 (by omega) (by omega), Int.tmod_eq_emod_of_nonneg ha0.1]
   omega
  rw [ha12]
  have hT : (a.tmod 12).toNat <= 11 := by rw [Int.tmod_eq_emod_of_nonneg ha0.1]; omega
  generalize hN : (a.tmod 12).toNat = N at hT
  refine ⟨fun vs wx => ∃ (j : Nat) (p : Option Addr) (c : Nat), vs = [.int .i64 (j : Int), .slice p j c] /\ j <= N /\ wx.ownsRow w3.heap.size 45 16 (.slice p j c) j ((moT i a j).flatMap auC) /\ K0 w3 wx, fun vs _ => (match vs with | .int _ a :: _ => N - a.toNat | _ => 0), ⟨0, none, 0, rfl, by omega, World.ownsRow_nil _ _ _ _, .refl _ _⟩, ?_⟩
  rintro x3 p j c w4 ⟨j', p', c', hv, hj, ho, k4⟩ _
  simp only [List.cons.injEq, Value.int.injEq, Value.slice.injEq, true_and, and_true] at hv
  obtain ⟨rfl, rfl, rfl, rfl⟩ := hv
  refine bsp_intro (fun hlt n4 W5 hW5 => ?_) (fun hge => ?_)
  ·have hlt : j < N := by simp at hlt; omega
   have k5 : K0 w4 W5 := hW5.kk rfl
   have hn5 : KeptL [n] W5 W5 := .refl _ _
   have cw := hW5.cells 0 rfl
   have hcell : ∀ ys : List Value, (ys = auC (auK i a (j : Int))) -> (moT i a j).flatMap auC ++ ys = (moT i a (j + 1)).flatMap auC := fun ys e => by
    rw [e, moT_succ, List.flatMap_append, List.flatMap_cons, List.flatMap_nil, List.append_nil]
   have hwr : IntKind.i64.wrap (IntKind.i64.wrap (IntKind.i64.wrap i * (j : Int)) + IntKind.i64.wrap a) = i * (j : Int) + a := by
    have hij : 0 <= i * (j : Int) /\ i * (j : Int) <= 255 * 11 := ⟨Int.mul_nonneg hi0.1 (by omega), Int.mul_le_mul hi0.2 (by omega) (by omega) (by decide)⟩
    rw [wr64 (x := i) (by omega) (by omega), wr64 (x := a) (by omega) (by omega), wr64 (x := i * (j : Int)) (by omega) (by omega), wr64 (by omega) (by omega)]
   rw [hwr]
   refine ⟨w3.heap.size, _, owns_kp ho k5 (fun _ _ h => h), by omega, by omega, Nat.le_trans k4.size k5.size, fun p6 c6 w6 ho6 hg6 _ => ?_⟩
   have kg := kp_grown hg6
   have k6 : K0 w3 w6 := (k4.trans k5).fresh kg (fun jj hjj e => by have := own_ge ho e; omega)
   rw [inc64 (by omega)]
   have ho6 : w6.ownsRow w3.heap.size 45 16 (.slice p6 (j + 1) c6) (j + 1) ((moT i a j).flatMap auC ++ auC (auK i a (j : Int))) := ho6
   rw [hcell _ rfl] at ho6
   refine ⟨.of_kp kg (fun z hz e => ?_), ⟨j + 1, p6, c6, rfl, hlt, ho6, k6⟩, by simp only [Int.toNat_natCast]; omega⟩
   rcases List.mem_singleton.1 hz with rfl
   have h1 := own_ge ho e
   have h2 := block_lt ds.1
   omega
  ·have hjN : j = N := by simp at hge; omega
   subst hjN
   have hml : moT i a j = moL i a := by unfold moT moL; rw [hN]
   have hlen : (moL i a).length = j := by rw [moL_len, hN]
   rw [hml] at ho
   have h4 := h3.k0 k4
   have d4 := ds.kd (.k0 k4)
   have ho' : w4.ownsRow w3.heap.size 45 16 (.slice p (moL i a).length c) (moL i a).length ((moL i a).flatMap auC) := by rw [hlen]; exact ho
   have hR4 : RowA auC 16 w4 p (moL i a) := RowA.own ho' auC_length (by decide)
   have hlt4 : ∀ g' o, p = some ⟨g', o, none⟩ -> g' < w4.heap.size := fun g' o e => by subst e; exact own_lt ho rfl
   have hb := fun z hz => (moL_ok (i := i) (a := a) z hz).1
   have hset := setModsQ_any h4.mq h4.qs (nmG g) (moL i a) p c hR4 hlt4 hb (h4.gw hG)
   rw [hlen] at hset
   refine ⟨hset.mono fun e w5 ⟨he, ⟨q5, hs5, hq5, hQ5⟩, k5⟩ => ?_⟩
   have kd5 := h4.mq.kd k5
   have h5 := h4.qopS hq5 hQ5 k5
   refine ⟨_, he, kp d4 kd5, ?_⟩
   have hR5 : RowA auC 16 w5 p (moL i a) := RowA.own (kd5.own ho' rfl) auC_length (by decide)
   have hxs := xset_any h5.mr (by have := r.gl; omega) (nmG g) (moL i a) p c hR5 hb
   rw [hlen] at hxs
   refine ⟨hxs.mono fun e w6 ⟨he, hx, k6⟩ => ⟨_, he, kp (d4.kd kd5) (.mf k6), by simp, ?_⟩⟩
   have kd6 : KD w w6 := ((kd3.trans (.k0 k4)).trans kd5).trans (.mf k6)
   rcases hx with ⟨hne, hM6⟩ | ⟨h0, X, P6, hp6, hs6, hM6⟩
   ·have e5 : q5 = q := by
     rcases hs5 with ⟨_, e⟩ | ⟨e, _⟩ | ⟨e, _⟩
     ·exact e
     ·exact absurd e hne
     ·exact absurd e hne
    subst e5
    exact ⟨_, M, P, h5.mop hM6 k6, r.mono (by omega), by unfold stpM; rw [hk]; exact .inr ⟨hne, rfl⟩, kd6⟩
   ·exact ⟨_, _, P6, h5.mop hM6 k6, r.setr moL_ok hs5 h0 hp6 hs6, by unfold stpM; rw [hk]; exact .inl ⟨h0, X, hp6, hs6, rfl⟩, kd6⟩
end Go.Proofs.YtfacflbmlfbeeaaGreatDoor
