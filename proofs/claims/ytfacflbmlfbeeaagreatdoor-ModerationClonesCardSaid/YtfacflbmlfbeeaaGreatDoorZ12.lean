/- The formulas of functions by the symbolic evaluator, and that each gives the call's contract. Written by a program (gen.py). No condition. -/
import Derived.Test.YtfacflbmlfbeeaaGreatDoorProg
import Derived.Test.YtfacflbmlfbeeaaGreatDoorZ02
import Derived.Test.YtfacflbmlfbeeaaGreatDoorZ04
import Derived.Test.YtfacflbmlfbeeaaGreatDoorZ03
import Derived.KernelRfl
import Derived.Test.YtfacflbmlfbeeaaGreatDoorZ11
import Derived.Test.YtfacflbmlfbeeaaGreatDoorZ05
namespace Go.Proofs.YtfacflbmlfbeeaaGreatDoor
set_option maxRecDepth 100000
set_option linter.unusedVariables false
def VC_lplay (p : Option Addr) (n : Nat) (c : Nat) (mx : Int) (w : World) (R : Ending -> World -> Prop) : Prop := CallsS Tryz.prog 17 #[.int .i64 4, .int .i64 2] w fun (e : Ending) (w' : World) => ∃ (x : Option Addr) (x_1 : Option Addr), e = .returned (.tuple #[.pointer x, .pointer x_1]) /\ KeptL [] w w' /\ ∃ (I : List Value -> World -> Prop) (m : List Value -> World -> Nat), I [Value.int .i64 0] w' /\ ∀ (x_2 : Int) (w' : World), I [Value.int .i64 x_2] w' -> bsp (decide (x_2 < (↑n : Int)) && decide (x_2 < mx)) (nn true p fun (b o : Nat) => (0 <= x_2 /\ x_2 < (↑n : Int)) /\ ∃ (x_3 : Int) (x_4 : Int), ∃ (x_5 : Int) (x_6 : Int), ∃ (x_7 : Int) (x_8 : ByteArray), AtL w' b (o + x_2.toNat * 6) [Value.int .u8 x_3, .int .u8 x_4, .int .u8 x_5, .int .u8 x_6, .int .i64 x_7, .string x_8] /\ CallsS Tryz.prog 31 #[.pointer x, .pointer x_1, .agg
 #[.int .u8 x_3, .int .u8 x_4, .int .u8 x_5, .int .u8 x_6, .int .i64 x_7, .string x_8]] w' fun (e : Ending) (w'_1 : World) => ∃ (x_9 : Bool), e = .returned (.bool x_9) /\ KeptL [] w' w'_1 /\ bsp (!x_9) (R (.returned (.tuple #[.pointer x, .pointer x_1, .bool false])) w'_1) (I [Value.int .i64 (IntKind.i64.wrap (x_2 + 1))] w'_1 /\ m [Value.int .i64 (IntKind.i64.wrap (x_2 + 1))] w'_1 < m [Value.int .i64 x_2] w')) (R (.returned (.tuple #[.pointer x, .pointer x_1, .bool true])) w')
theorem vc_lplay (p : Option Addr) (n : Nat) (c : Nat) (mx : Int) (w : World) (R : Ending -> World -> Prop) (h : VC_lplay p n c mx w R) : Calls Tryz.prog 28 ([Value.slice p n c, .int .i64 mx] : List Value).toArray w R :=
 calls_of_exec2' (loops := [(3, [(9, Ck.int .i64)])]) (tails := []) (joins := []) (boxes := []) (rngs := []) (c := Tryz.f28.body.getD .skip) pur1_ok Tryz.func28 (by kernel_rfl) (by kernel_rfl) h
end Go.Proofs.YtfacflbmlfbeeaaGreatDoor
namespace Go.Proofs.YtfacflbmlfbeeaaGreatDoor
set_option maxRecDepth 100000
set_option linter.unusedVariables false
end Go.Proofs.YtfacflbmlfbeeaaGreatDoor
namespace Go.Proofs.YtfacflbmlfbeeaaGreatDoor
set_option maxRecDepth 100000
set_option linter.unusedVariables false
end Go.Proofs.YtfacflbmlfbeeaaGreatDoor
namespace Go.Proofs.YtfacflbmlfbeeaaGreatDoor
open Go.RowKit Go.Sort Go.Maps
def Chn (r d : Int) (L : List OpZ) : Nat -> Mo -> Prop
 | 0, M => M0 r d M
 | j + 1, M' => ∃ (M : Mo) (x : OpZ), Chn r d L j M /\ L[j]? = some x /\ stpM x.k x.i x.g x.a x.now x.t M M' /\ M'.es.Pairwise fun x y => cfM x.s y.s < 0
theorem Chn.det {r d : Int} {L : List OpZ} : ∀ {j : Nat} {M N : Mo}, Chn r d L j M -> Chn r d L j N -> MoE M N
 | 0, _, _, h1, h2 => M0.moe h1 h2
 | j + 1, _, _, ⟨_, x, h1, hx, s1, p1⟩, ⟨_, y, h2, hy, s2, p2⟩ => by
  rw [hx] at hy
  cases hy
  exact (Chn.det h1 h2).step s1 s2 p1 p2
structure Pd (r d : Int) (L : List OpZ) (w w' : World) (b mb eb m j : Nat) (q : Qu) (M : Mo) (P : Pl) : Prop where
 sw : SW w w' b mb eb m q M P
 rq : Rq (2 + j) q M
 ch : Chn r d L j M
 st : St r d M
 nm : NmD M
theorem Pd.k0 {r d : Int} {L : List OpZ} {w w' w2 : World} {b mb eb m j : Nat} {q : Qu} {M : Mo} {P : Pl} (h : Pd r d L w w' b mb eb m j q M P) (k : K0 w' w2) : Pd r d L w w2 b mb eb m j q M P := ⟨h.sw.k0 k, h.rq, h.ch, h.st, h.nm⟩
set_option maxRecDepth 100000 in
set_option maxHeartbeats 4000000 in
theorem Pd.do {r d : Int} {L : List OpZ} {w w' : World} {b mb eb m j : Nat} {q : Qu} {M : Mo} {P : Pl} (h : Pd r d L w w' b mb eb m j q M P) (hj : j <= 40) (hG : GW w) {x : OpZ} (hx : L[j]? = some x) (ho : x.R) :
  Calls Tryz.prog 31 #[.pointer (some ⟨b, 0, none⟩), .pointer (some ⟨m, 0, none⟩), .agg (([.int .u8 x.k, .int .u8 x.i, .int .u8 x.g, .int .u8 x.a, .int .i64 x.now, .string x.t] : List Value)).toArray] w' fun e w2 => e = .returned (.bool true) /\ ∃ (q' : Qu) (M' : Mo) (P' : Pl), Pd r d L w w2 b mb eb m (j + 1) q' M' P' /\ stpM x.k x.i x.g x.a x.now x.t M M' /\ KD w' w2 :=
 (ldo_any h.sw h.rq (by omega) hG x.k x.i x.g x.a x.now x.t ho.k.1 ho.i ho.g ho.a).mono fun e w2 ⟨he, q', M', P', h2, r2, hs, kd⟩ => ⟨he, q', M', P', ⟨h2, r2, ⟨M, x, h.ch, hx, hs, r2.srt⟩, h.st.step h.rq.dis hs, h.nm.step hs⟩, hs, kd⟩
set_option maxRecDepth 100000 in
set_option maxHeartbeats 4000000 in
theorem lplay_any (p : Option Addr) (L : List OpZ) (c : Nat) (mx : Int) (w : World) (hR : RowA opC39 6 w p L) (hL : ∀ x ∈ L, x.R) (hl : L.length <= 4611686018427387904) (hmx : 0 <= mx /\ mx <= 40) (hG : GW w) :
  Calls Tryz.prog 28 #[.slice p L.length c, .int .i64 mx] w fun e w' => ∃ (b mb eb m j : Nat) (q : Qu) (M : Mo) (P : Pl), e = .returned (.tuple #[.pointer (some ⟨b, 0, none⟩), .pointer (some ⟨m, 0, none⟩), .bool true]) /\ Pd 4 2 L w w' b mb eb m j q M P /\ j = min L.length mx.toNat := by
 refine vc_lplay p L.length c mx w _ ⟨(lstart_any 4 2 (by decide) w hG).mono fun e w1 ⟨b, mb, eb, m, q, M, P, he, h, r, h0, _⟩ => ⟨_, _, he, .of_k0 h.k, ?_⟩⟩
 refine ⟨fun vs w' => ∃ (j : Nat) (q : Qu) (M : Mo) (P : Pl), vs = [.int .i64 (j : Int)] /\ j <= L.length /\ j <= mx.toNat /\ Pd 4 2 L w w' b mb eb m j q M P, fun vs _ => (match vs with | .int _ a :: _ => L.length - a.toNat | _ => 0), ⟨0, q, M, P, rfl, by omega, by omega, h, r, h0, h0.st (by decide), h0.nm⟩, ?_⟩
 rintro x2 w2 ⟨j, q2, M2, P2, hv, hj, hjm, h2⟩
 simp only [List.cons.injEq, Value.int.injEq, true_and, and_true] at hv
 subst hv
 refine bsp_intro (fun hlt => ?_) (fun hge => ?_)
 ·have hlt : j < L.length /\ (j : Int) < mx := by simp at hlt; omega
  obtain ⟨x, bb, o, hx, hp, hat⟩ := (hR.k0 h2.sw.k).get hlt.1
  have ho := hL x (List.mem_of_getElem? hx)
  rw [Int.toNat_natCast]
  refine nn_is hp ⟨⟨by omega, by omega⟩, x.k, x.i, x.g, x.a, x.now, x.t, hat, ⟨(h2.do (by omega) hG hx ho).mono fun e w3 ⟨he, q3, M3, P3, h3, _, kd⟩ => ⟨_, he, kd.kept (fun z hz => by cases hz), bsp_intro (fun h => by cases h) (fun _ => ?_)⟩⟩⟩
  rw [inc64 (by omega)]
  exact ⟨⟨j + 1, q3, M3, P3, rfl, hlt.1, by omega, h3⟩, by simp only [Int.toNat_natCast]; omega⟩
 ·have hge : ¬ ((j : Int) < L.length /\ (j : Int) < mx) := by
   simp only [Bool.and_eq_false_iff, decide_eq_false_iff_not] at hge
   omega
  exact ⟨b, mb, eb, m, j, q2, M2, P2, rfl, h2, by omega⟩
theorem SW.lapse {w0 w : World} {b mb eb m n : Nat} {q : Qu} {M : Mo} {P : Pl} (h : SW w0 w b mb eb m q M P) (r : Rq n q M) (hn : n <= 10000) (hG : GW w0) (now : Int) :
  Calls Tryz.prog 33 #[.pointer (some ⟨b, 0, none⟩), .int .i64 now] w fun e w' => ∃ (p : Option Addr) (c : Nat) (q5 : Qu), e = .returned (.slice p (xlpL M now).length c) /\ RowA sbC 54 w' p (xlpL M now) /\ (∀ g' o, p = some ⟨g', o, none⟩ -> ∃ cc ff, w'.heap[g']? = some (.cells cc 48 ff)) /\ SW w0 w' b mb eb m q5 M P /\ Rq n q5 (xlpM M now) /\ KD w w' :=
 (lapse_any h.mq r.qo (by have := r.ql; omega) now (h.gw hG)).mono fun e w5 hla => by
  rcases hla with ⟨hm, he, _, k5⟩ | ⟨hm, p, c, L, he, hp, hs, ho, hq5, k5⟩
  ·have e1 : xlpL M now = [] := by unfold xlpL; rw [if_neg (by rw [hm]; decide)]
   have e2 : xlpM M now = M := by unfold xlpM; rw [if_neg (by rw [hm]; decide)]
   rw [e1, e2]
   exact ⟨none, 0, q, he, RowA.nil, (fun g' o e => by cases e), h.k0 k5, r, .k0 k5⟩
  ·obtain ⟨e1, r5⟩ := r.lap hm hp hs
   have hl : L.length = (xlpL M now).length := by rw [<- e1, List.length_map]
   rw [e1, hl] at ho
   rw [hl] at he
   refine ⟨p, c, _, he, RowA.own ho sbC_length (by decide), fun g' o e => ?_, h.qop hq5 k5 (finA_ms ..), r5, h.mq.kd k5⟩
   subst e
   obtain ⟨cc, hcc⟩ := own_type ho (k := g') rfl
   exact ⟨cc, _, hcc⟩
end Go.Proofs.YtfacflbmlfbeeaaGreatDoor
namespace Go.Proofs.YtfacflbmlfbeeaaGreatDoor
set_option maxRecDepth 100000
set_option linter.unusedVariables false
def VC_lstate (b : Nat) (m : Nat) (now : Int) (w : World) (R : Ending -> World -> Prop) : Prop := ∃ (I : List Value -> World -> Prop) (m_1 : List Value -> World -> Nat), I [Value.int .i64 0] w /\ ∀ (x : Int) (w' : World), I [Value.int .i64 x] w' -> bsp (decide (x < 7)) (CallsS Tryz.prog 30 #[.int .u8 (IntKind.u8.wrap x)] w' fun (e : Ending) (w'_1 : World) => ∃ (x_1 : ByteArray), e = .returned (.string x_1) /\ KeptL [] w' w'_1 /\ ∃ (I_1 : List Value -> World -> Prop) (m_2 : List Value -> World -> Nat), I_1 [Value.int .i64 (-1)] w'_1 /\ ∀ (x_2 : Int) (w'_2 : World), I_1 [Value.int .i64 x_2] w'_2 -> bsp (decide (x_2 <= 4)) (CallsS Tryz.prog 57 #[.pointer (some (Addr.mk m 0 none)), .string x_1, .int .i64 x_2] w'_2 fun (e : Ending) (w' : World) => ∃ (p : Option Addr) (n : Nat) (c : Nat), e = .returned (.slice p n c) /\ KeptL [] w'_2 w' /\ CallsS Tryz.prog 32
 #[.pointer (some (Addr.mk b 0 none)), .string x_1, .int .i64 x_2] w' fun (e : Ending) (w'_3 : World) => ∃ (p_1 : Option Addr) (n_1 : Nat) (c_1 : Nat), e = .returned (.slice p_1 n_1 c_1) /\ KeptL [] w' w'_3 /\ CallsS Tryz.prog 34 #[.slice p_1 n_1 c_1, .slice p n c] w'_3 fun (e : Ending) (w' : World) => ∃ (x : Bool), e = .returned (.bool x) /\ KeptL [] w'_3 w' /\ bsp (!!x) (CallsS Tryz.prog 15 #[.pointer (some (Addr.mk b 0 none)), .string x_1, .int .i64 x_2] w' fun (e : Ending) (w'_4 : World) => ∃ (x : Int), e = .returned (.int .i64 x) /\ KeptL [] w' w'_4 /\ bsp (false || x != (↑n : Int)) (R (.returned (.bool false)) w'_4) (I_1 [Value.int .i64 (IntKind.i64.wrap (x_2 + 1))] w'_4 /\ m_2 [Value.int .i64 (IntKind.i64.wrap (x_2 + 1))] w'_4 < m_2 [Value.int .i64 x_2] w'_2)) (KeptL [] w' w' /\ R (.returned (.bool false)) w'))
 (CallsS Tryz.prog 16 #[.pointer (some (Addr.mk b 0 none)), .string x_1] w'_2 fun (e : Ending) (w'_3 : World) => ∃ (p : Option Addr) (n : Nat) (c : Nat), e = .returned (.slice p n c) /\ KeptL [] w'_2 w'_3 /\ CallsS Tryz.prog 55 #[.pointer (some (Addr.mk m 0 none)), .string x_1] w'_3 fun (e : Ending) (w'_4 : World) => ∃ (p_1 : Option Addr) (n_1 : Nat) (c : Nat), e = .returned (.slice p_1 n_1 c) /\ KeptL [] w'_3 w'_4 /\ bsp ((↑n : Int) != (↑n_1 : Int)) (R (.returned (.bool false)) w'_4) (∃ (I_2 : List Value -> World -> Prop) (m : List Value -> World -> Nat), I_2 [Value.int .i64 0] w'_4 /\ ∀ (x_3 : Int) (w'_5 : World), I_2 [Value.int .i64 x_3] w'_5 -> bsp (decide (x_3 < (↑n : Int))) (nn true p fun (b o : Nat) => (0 <= x_3 /\ x_3 < (↑n : Int)) /\ ∃ (f : Nat -> Int), (∀ (W : World), Loc w.heap.size [] w'_5 W -> AtL W b (o + x_3.toNat * 16) (arrI .u8 f 16 0)) /\
 nn true p_1 fun (b o : Nat) => (0 <= x_3 /\ x_3 < (↑n_1 : Int)) /\ ∃ (f_1 : Nat -> Int), (∀ (W : World), Loc w.heap.size [] w'_5 W -> AtL W b (o + x_3.toNat * 16) (arrI .u8 f_1 16 0)) /\ ∃ (r : Bool), EqP Tryz.prog 45 (.agg (arrI .u8 f 16 0).toArray) (.agg (arrI .u8 f_1 16 0).toArray) r /\ bsp (!r) (∀ (W : World), Loc w.heap.size [] w'_5 W -> R (.returned (.bool false)) W) (∀ (W : World), Loc w.heap.size [] w'_5 W -> I_2 [Value.int .i64 (IntKind.i64.wrap (x_3 + 1))] W /\ m [Value.int .i64 (IntKind.i64.wrap (x_3 + 1))] W < m [Value.int .i64 x_3] w'_5)) (I [Value.int .i64 (IntKind.i64.wrap (x + 1))] w'_5 /\ m_1 [Value.int .i64 (IntKind.i64.wrap (x + 1))] w'_5 < m_1 [Value.int .i64 x] w')))) (∃ (I : List Value -> World -> Prop) (m_2 : List Value -> World -> Nat), I [Value.int .i64 0] w' /\ ∀ (x : Int) (w' : World), I [Value.int .i64 x] w' -> ∃ (p : Option Addr) (n : Nat),
 ∃ (c : Nat), w'.cell? (Addr.mk m (0 + 3) none) = some (.slice p n c) /\ bsp (decide (x < (↑n : Int))) (∃ (p : Option Addr) (n : Nat) (c : Nat), w'.cell? (Addr.mk m (0 + 3) none) = some (.slice p n c) /\ nn true p fun (b_1 o : Nat) => (0 <= x /\ x < (↑n : Int)) /\ ∃ (f : Nat -> Int) (x_1 : ByteArray), ∃ (x_2 : ByteArray) (x_3 : Int), ∃ (x_4 : Int) (f_1 : Nat -> Int), ∃ (x_5 : Int) (x_6 : ByteArray), ∃ (x_7 : Bool) (f_2 : Nat -> Int) (x_8 : Int), AtL w' b_1 (o + x.toNat * 72) (arrI .u8 f 32 0 ++ ([Value.string x_1, .string x_2, .int .i64 x_3, .int .i64 x_4] ++ arrI .u8 f_1 16 0 ++ ([Value.int .i64 x_5, .string x_6, .bool x_7] ++ arrI .u8 f_2 16 0 ++ [Value.int .i64 x_8]))) /\ ∀ (n : Nat) (W : World), Loc w.heap.size [Blk.mk n 91 (arrI .u8 f 32 0 ++ ([Value.string x_1,
 .string x_2, .int .i64 x_3, .int .i64 x_4] ++ arrI .u8 f_1 16 0 ++ ([Value.int .i64 x_5, .string x_6, .bool x_7] ++ arrI .u8 f_2 16 0 ++ [Value.int .i64 x_8]))) (wrM 2)] w' W -> CallsS Tryz.prog 21 #[.pointer (some (Addr.mk b 0 none)), .agg (arrI .u8 f 32 0).toArray, .string x_1] W fun (e : Ending) (w'_1 : World) => ∃ (f_3 : Nat -> Int) (x_9 : ByteArray), ∃ (x_10 : ByteArray) (x_11 : Int), ∃ (x_12 : Int) (f_4 : Nat -> Int), ∃ (x_13 : Int) (x_14 : ByteArray) (x_15 : Bool), e = .returned (.tuple #[.agg (arrI .u8 f_3 32 0 ++ ([Value.string x_9, .string x_10, .int .i64 x_11, .int .i64 x_12] ++ arrI .u8 f_4 16 0 ++ [Value.int .i64 x_13, .string x_14])).toArray, .bool x_15]) /\ KeptL [n] W w'_1 /\ ∀ (n_1 : Nat) (W : World), Loc w.heap.size [Blk.mk n_1 48 (arrI .u8 f_3 32 0 ++ ([Value.string x_9, .string x_10, .int .i64 x_11,
 .int .i64 x_12] ++ arrI .u8 f_4 16 0 ++ [Value.int .i64 x_13, .string x_14])) (wrM 2), Blk.mk n 91 (arrI .u8 f 32 0 ++ ([Value.string x_1, .string x_2, .int .i64 x_3, .int .i64 x_4] ++ arrI .u8 f_1 16 0 ++ ([Value.int .i64 x_5, .string x_6, .bool x_7] ++ arrI .u8 f_2 16 0 ++ [Value.int .i64 x_8]))) 0] w'_1 W -> CallsS Tryz.prog 41 #[.pointer (some (Addr.mk b 0 none)), .agg (arrI .u8 f 32 0).toArray, .string x_1, .int .i64 now] W fun (e : Ending) (w'_2 : World) => ∃ (f_5 : Nat -> Int) (x_16 : Bool), e = .returned (.tuple #[.agg (arrI .u8 f_5 16 0).toArray, .bool x_16]) /\ KeptL [n_1, n] W w'_2 /\ ∀ (n_2 : Nat) (W : World), Loc w.heap.size [Blk.mk n_2 45 (arrI .u8 f_5 16 0) (wrM 2), Blk.mk n_1 48 (arrI .u8 f_3 32 0 ++ ([Value.string x_9, .string x_10, .int .i64 x_11, .int .i64 x_12] ++ arrI .u8 f_4 16 0 ++ [Value.int .i64 x_13, .string x_14])) 0, Blk.mk n 91
 (arrI .u8 f 32 0 ++ ([Value.string x_1, .string x_2, .int .i64 x_3, .int .i64 x_4] ++ arrI .u8 f_1 16 0 ++ ([Value.int .i64 x_5, .string x_6, .bool x_7] ++ arrI .u8 f_2 16 0 ++ [Value.int .i64 x_8]))) 0] w'_2 W -> CallsS Tryz.prog 60 #[.agg (arrI .u8 f 32 0 ++ ([Value.string x_1, .string x_2, .int .i64 x_3, .int .i64 x_4] ++ arrI .u8 f_1 16 0 ++ ([Value.int .i64 x_5, .string x_6, .bool x_7] ++ arrI .u8 f_2 16 0 ++ [Value.int .i64 x_8]))).toArray, .int .i64 now] W fun (e : Ending) (w'_3 : World) => ∃ (f_6 : Nat -> Int) (x_17 : Bool), e = .returned (.tuple #[.agg (arrI .u8 f_6 16 0).toArray, .bool x_17]) /\ KeptL [n_2, n_1, n] W w'_3 /\ ∀ (n_3 : Nat) (W : World), Loc w.heap.size [Blk.mk n_3 45 (arrI .u8 f_6 16 0) (wrM 2), Blk.mk n_2 45 (arrI .u8 f_5 16 0) 0, Blk.mk n_1 48 (arrI .u8 f_3 32 0 ++ ([Value.string x_9, .string x_10, .int .i64 x_11,
 .int .i64 x_12] ++ arrI .u8 f_4 16 0 ++ [Value.int .i64 x_13, .string x_14])) 0, Blk.mk n 91 (arrI .u8 f 32 0 ++ ([Value.string x_1, .string x_2, .int .i64 x_3, .int .i64 x_4] ++ arrI .u8 f_1 16 0 ++ ([Value.int .i64 x_5, .string x_6, .bool x_7] ++ arrI .u8 f_2 16 0 ++ [Value.int .i64 x_8]))) 0] w'_3 W -> CallsS Tryz.prog 36 #[.int .i64 now] W fun (e : Ending) (w'_4 : World) => ∃ (x_18 : Bool), e = .returned (.bool x_18) /\ KeptL [n_3, n_2, n_1, n] W w'_4 /\ bsp (!x_18) (∃ (f_7 : Nat -> Int) (x_19 : ByteArray), ∃ (x_20 : ByteArray) (x_21 : Int), ∃ (x_22 : Int) (f_8 : Nat -> Int), ∃ (x_23 : Int) (x_24 : ByteArray), gimp (!!x_15) (∀ (W : World), Loc w.heap.size [Blk.mk n_3 45 [Value.int .u8 0, .int .u8 0, .int .u8 0, .int .u8 0, .int .u8 0, .int .u8 0, .int .u8 0, .int .u8 0, .int .u8 0, .int .u8 0, .int .u8 0, .int .u8 0, .int .u8 0, .int .u8 0, .int .u8 0, .int .u8 0]
 (wrM 0), Blk.mk n_2 45 (arrI .u8 f_5 16 0) 0, Blk.mk n_1 48 (arrI .u8 f_3 32 0 ++ ([Value.string x_9, .string x_10, .int .i64 x_11, .int .i64 x_12] ++ arrI .u8 f_4 16 0 ++ [Value.int .i64 x_13, .string x_14])) 0, Blk.mk n 91 (arrI .u8 f 32 0 ++ ([Value.string x_1, .string x_2, .int .i64 x_3, .int .i64 x_4] ++ arrI .u8 f_1 16 0 ++ ([Value.int .i64 x_5, .string x_6, .bool x_7] ++ arrI .u8 f_2 16 0 ++ [Value.int .i64 x_8]))) 0] w'_4 W -> AtL W n 0 (arrI .u8 f_7 32 0 ++ ([Value.string x_19, .string x_20, .int .i64 x_21, .int .i64 x_22] ++ arrI .u8 f_8 16 0 ++ [Value.int .i64 x_23, .string x_24]))) /\ ∃ (r : Bool), gimp (!!x_15) (EqP Tryz.prog 48 (.agg (arrI .u8 f_3 32 0 ++ ([Value.string x_9, .string x_10, .int .i64 x_11, .int .i64 x_12] ++ arrI .u8 f_4 16 0 ++ [Value.int .i64 x_13, .string x_14])).toArray) (.agg (arrI .u8 f_7 32 0 ++ ([Value.string x_19, .string x_20, .int .i64 x_21,
 .int .i64 x_22] ++ arrI .u8 f_8 16 0 ++ [Value.int .i64 x_23, .string x_24])).toArray) r) /\ ∃ (r_1 : Bool), gimp (!(!x_15 || !r)) (EqP Tryz.prog 45 (.agg (arrI .u8 f_5 16 0).toArray) (.agg #[.int .u8 0, .int .u8 0, .int .u8 0, .int .u8 0, .int .u8 0, .int .u8 0, .int .u8 0, .int .u8 0, .int .u8 0, .int .u8 0, .int .u8 0, .int .u8 0, .int .u8 0, .int .u8 0, .int .u8 0, .int .u8 0]) r_1) /\ bsp (!x_15 || !r || !r_1 || !x_16 == false) (∀ (W : World), Loc w.heap.size [Blk.mk n_3 45 [Value.int .u8 0, .int .u8 0, .int .u8 0, .int .u8 0, .int .u8 0, .int .u8 0, .int .u8 0, .int .u8 0, .int .u8 0, .int .u8 0, .int .u8 0, .int .u8 0, .int .u8 0, .int .u8 0, .int .u8 0, .int .u8 0] (wrM 0), Blk.mk n_2 45 (arrI .u8 f_5 16 0) 0, Blk.mk n_1 48 (arrI .u8 f_3 32 0 ++ ([Value.string x_9, .string x_10, .int .i64 x_11, .int .i64 x_12] ++ arrI .u8 f_4 16 0 ++ [Value.int .i64 x_13, .string x_14])) 0,
 Blk.mk n 91 (arrI .u8 f 32 0 ++ ([Value.string x_1, .string x_2, .int .i64 x_3, .int .i64 x_4] ++ arrI .u8 f_1 16 0 ++ ([Value.int .i64 x_5, .string x_6, .bool x_7] ++ arrI .u8 f_2 16 0 ++ [Value.int .i64 x_8]))) 0] w'_4 W -> R (.returned (.bool false)) W) (∀ (W : World), Loc w.heap.size [Blk.mk n_3 45 [Value.int .u8 0, .int .u8 0, .int .u8 0, .int .u8 0, .int .u8 0, .int .u8 0, .int .u8 0, .int .u8 0, .int .u8 0, .int .u8 0, .int .u8 0, .int .u8 0, .int .u8 0, .int .u8 0, .int .u8 0, .int .u8 0] (wrM 0), Blk.mk n_2 45 (arrI .u8 f_5 16 0) 0, Blk.mk n_1 48 (arrI .u8 f_3 32 0 ++ ([Value.string x_9, .string x_10, .int .i64 x_11, .int .i64 x_12] ++ arrI .u8 f_4 16 0 ++ [Value.int .i64 x_13, .string x_14])) 0, Blk.mk n 91 (arrI .u8 f 32 0 ++ ([Value.string x_1, .string x_2, .int .i64 x_3, .int .i64 x_4] ++ arrI .u8 f_1 16 0 ++ ([Value.int .i64 x_5, .string x_6,
 .bool x_7] ++ arrI .u8 f_2 16 0 ++ [Value.int .i64 x_8]))) 0] w'_4 W -> I [Value.int .i64 (IntKind.i64.wrap (x + 1))] W /\ m_2 [Value.int .i64 (IntKind.i64.wrap (x + 1))] W < m_2 [Value.int .i64 x] w')) (∃ (f : Nat -> Int) (x_19 : ByteArray), ∃ (x_20 : ByteArray) (x_21 : Int), ∃ (x_22 : Int) (f_7 : Nat -> Int), ∃ (x_23 : Int) (x_24 : ByteArray), gimp (!!x_15) (AtL w'_4 n 0 (arrI .u8 f 32 0 ++ ([Value.string x_19, .string x_20, .int .i64 x_21, .int .i64 x_22] ++ arrI .u8 f_7 16 0 ++ [Value.int .i64 x_23, .string x_24]))) /\ ∃ (r : Bool), gimp (!!x_15) (EqP Tryz.prog 48 (.agg (arrI .u8 f_3 32 0 ++ ([Value.string x_9, .string x_10, .int .i64 x_11, .int .i64 x_12] ++ arrI .u8 f_4 16 0 ++ [Value.int .i64 x_13, .string x_14])).toArray) (.agg (arrI .u8 f 32 0 ++ ([Value.string x_19, .string x_20, .int .i64 x_21, .int .i64 x_22] ++ arrI .u8 f_7 16 0 ++ [Value.int .i64 x_23,
 .string x_24])).toArray) r) /\ ∃ (r_1 : Bool), gimp (!(!x_15 || !r)) (EqP Tryz.prog 45 (.agg (arrI .u8 f_5 16 0).toArray) (.agg (arrI .u8 f_6 16 0).toArray) r_1) /\ bsp (!x_15 || !r || !r_1 || !x_16 == x_17) (R (.returned (.bool false)) w'_4) (I [Value.int .i64 (IntKind.i64.wrap (x + 1))] w'_4 /\ m_2 [Value.int .i64 (IntKind.i64.wrap (x + 1))] w'_4 < m_2 [Value.int .i64 x] w'))) (CallsS Tryz.prog 21 #[.pointer (some (Addr.mk b 0 none)), .agg #[.int .u8 9, .int .u8 0, .int .u8 0, .int .u8 0, .int .u8 0, .int .u8 0, .int .u8 0, .int .u8 0, .int .u8 0, .int .u8 0, .int .u8 0, .int .u8 0, .int .u8 0, .int .u8 0, .int .u8 0, .int .u8 0, .int .u8 0, .int .u8 0, .int .u8 0, .int .u8 0, .int .u8 0, .int .u8 0, .int .u8 0, .int .u8 0, .int .u8 0, .int .u8 0, .int .u8 0, .int .u8 0, .int .u8 0, .int .u8 0, .int .u8 0, .int .u8 0], .string (ByteArray.mk #[103])]
 w' fun (e : Ending) (w'_1 : World) => ∃ (f : Nat -> Int) (x : ByteArray), ∃ (x_1 : ByteArray) (x_2 : Int), ∃ (x_3 : Int) (f_1 : Nat -> Int), ∃ (x_4 : Int) (x_5 : ByteArray) (x_6 : Bool), e = .returned (.tuple #[.agg (arrI .u8 f 32 0 ++ ([Value.string x, .string x_1, .int .i64 x_2, .int .i64 x_3] ++ arrI .u8 f_1 16 0 ++ [Value.int .i64 x_4, .string x_5])).toArray, .bool x_6]) /\ KeptL [] w' w'_1 /\ ∀ (n : Nat) (W : World), Loc w.heap.size [Blk.mk n 48 (arrI .u8 f 32 0 ++ ([Value.string x, .string x_1, .int .i64 x_2, .int .i64 x_3] ++ arrI .u8 f_1 16 0 ++ [Value.int .i64 x_4, .string x_5])) (wrM 2)] w'_1 W -> R (.returned (.bool !x_6)) W))
theorem vc_lstate (b : Nat) (m : Nat) (now : Int) (w : World) (R : Ending -> World -> Prop) (h : VC_lstate b m now w R) : Calls Tryz.prog 42 ([Value.pointer (some { block := b, off := 0 }), .pointer (some { block := m, off := 0 }), .int .i64 now] : List Value).toArray w R :=
 calls_of_exec2' (loops := [(2, [(7, Ck.int .i64)]), (6, [(9, Ck.int .i64)]), (15, [(13, Ck.int .i64)]), (20, [(14, Ck.int .i64)])]) (tails := []) (joins := []) (boxes := []) (rngs := []) (c := Tryz.f42.body.getD .skip) pur1_ok Tryz.func42 (by kernel_rfl) (by kernel_rfl) h
end Go.Proofs.YtfacflbmlfbeeaaGreatDoor
namespace Go.Proofs.YtfacflbmlfbeeaaGreatDoor
open Go.RowKit Go.Sort Go.Maps
def IdZ (M : Mo) : Prop := ∀ y ∈ M.es, y.s.id 0 = 0
theorem IdZ.up {M : Mo} (h : IdZ M) (k : Ky) {f : En -> En} (hf : ∀ y, (f y).s.id = y.s.id) : IdZ (M.up k f) := fun z hz => by
 obtain ⟨y, hy, rfl⟩ := List.mem_map.1 hz
 split
 ·rw [hf]; exact h y hy
 ·exact h y hy
theorem IdZ.step {k i g a now : Int} {t : ByteArray} {M M' : Mo} (h : IdZ M) (hs : stpM k i g a now t M M') : IdZ M' := by
 unfold stpM at hs
 split at hs
 ·rcases hs with ⟨_, L, hp, rfl⟩ | ⟨_, rfl⟩
  ·intro y hy
   rcases List.mem_cons.1 (hp.subset hy) with rfl | hy
   ·rfl
   ·exact h y hy
  ·exact h
 ·subst hs; unfold xclM; split
  ·exact h.up _ fun _ => rfl
  ·exact h
 ·subst hs; unfold xrlM; split
  ·exact h.up _ fun _ => rfl
  ·exact h
 ·subst hs; unfold xdcM; split
  ·exact h.up _ fun _ => rfl
  ·exact h
 ·subst hs; unfold xdcM; split
  ·exact h.up _ fun _ => rfl
  ·exact h
 ·subst hs; unfold xlpM; split
  ·intro z hz
   obtain ⟨y, hy, rfl⟩ := List.mem_map.1 hz
   unfold lpF
   split
   ·exact h y hy
   ·exact h y hy
  ·exact h
 ·subst hs
  intro y hy
  exact h y (List.mem_filter.1 hy).1
 ·rcases hs with ⟨_, X, _, _, rfl⟩ | ⟨_, rfl⟩ <;> exact h
theorem Chn.idz {r d : Int} {L : List OpZ} : ∀ {j : Nat} {M : Mo}, Chn r d L j M -> IdZ M
 | 0, M, h => fun y hy => by
  have h : M0 r d M := h
  rw [h.es] at hy; cases hy
 | j + 1, _, ⟨M, x, h, hx, hs, _⟩ => (Chn.idz h).step hs
theorem fdL_no {M : Mo} (h : IdZ M) : fdL M.es (idI (k39 9), kG) = none := by
 cases hf : fdL M.es (idI (k39 9), kG) with
 | none => rfl
 | some y =>
  have hm := List.mem_of_find?_eq_some hf
  have hk : y.s.ky = (idI (k39 9), kG) := by simpa using List.find?_some hf
  have h1 := congrArg (fun l : List Int => l[0]?) (Prod.mk.inj hk).1
  have h2 := h y hm
  simp [idI, k39] at h1
  omega
theorem inE_le {y : En} {now : Int} (h : inE y now = true) : y.le = true := by
 unfold inE at h
 simp at h
 exact h.1
theorem w8_nn (x : Int) : 0 <= IntKind.u8.wrap x := by unfold IntKind.wrap; simp [IntKind.bits, IntKind.signed]; omega
set_option maxRecDepth 100000 in
set_option maxHeartbeats 16000000 in
theorem lstate_any {w0 w : World} {b mb eb m n0 : Nat} {q : Qu} {M : Mo} {P : Pl} (h : SW w0 w b mb eb m q M P) (r : Rq n0 q M) (hn0 : n0 <= 5000) (hz : IdZ M) (hG : GW w0) (now : Int) :
  Calls Tryz.prog 42 #[.pointer (some ⟨b, 0, none⟩), .pointer (some ⟨m, 0, none⟩), .int .i64 now] w fun e w' => e = .returned (.bool true) /\ K0 w w' := by
 have hel := r.el
 have hgl := r.gl
 have om := r.mo (by omega)
 have lsl : ∀ g st, (M.ls g st).length <= 5000 := fun g st => by
  unfold Mo.ls
  rw [List.length_map]
  have := List.length_filter_le (lsP g st) M.es
  omega
 have lso : ∀ g st, ∀ x ∈ M.ls g st, x.OK := fun g st x hx => by
  unfold Mo.ls at hx
  obtain ⟨y, hy, rfl⟩ := List.mem_map.1 hx
  exact (om.es y (List.mem_filter.1 hy).1).1.s
 refine vc_lstate b m now w _ ?_
 refine ⟨fun vs wx => ∃ i : Nat, vs = [.int .i64 (i : Int)] /\ i <= 7 /\ K0 w wx, fun vs _ => (match vs with | .int _ a :: _ => 7 - a.toNat | _ => 0), ⟨0, rfl, by omega, .refl _ _⟩, ?_⟩
 rintro x1 w1 ⟨i, hv, hi, k1⟩
 simp only [List.cons.injEq, Value.int.injEq, true_and, and_true] at hv
 subst hv
 refine bsp_intro (fun hlt => ?_) (fun hge => ?_)
 ·have hlt : i < 7 := by simp at hlt; omega
  refine ⟨(lname_any (IntKind.u8.wrap (i : Int)) (w8_nn _) w1).mono fun e w2 ⟨he, k2⟩ => ⟨_, he, .of_k0 k2, ?_⟩⟩
  have hgs := nmG_sz (IntKind.u8.wrap (i : Int))
  generalize nmG (IntKind.u8.wrap (i : Int)) = g at hgs
  have k02 := k1.trans k2
  refine ⟨fun vs wx => ∃ j : Nat, vs = [.int .i64 ((j : Int) - 1)] /\ j <= 6 /\ K0 w wx, fun vs _ => (match vs with | .int _ a :: _ => 6 - (a + 1).toNat | _ => 0), ⟨0, rfl, by omega, k02⟩, ?_⟩
  rintro x2 w3 ⟨j, hv, hj, k3⟩
  simp only [List.cons.injEq, Value.int.injEq, true_and, and_true] at hv
  subst hv
  have h3 := h.k0 k3
  refine bsp_intro (fun hlt2 => ?_) (fun hge2 => ?_)
  ·have hlt2 : j < 6 := by simp at hlt2; omega
   refine ⟨(xlist_any h3.mr (by omega) g ((j : Int) - 1)).mono fun e w4 ⟨⟨p4, c4, he, ho4⟩, k4⟩ => ⟨_, _, _, he, .of_k0 k4, ?_⟩⟩
   have h4 := h3.k0 k4
   refine ⟨(h4.list r (by omega) hG g ((j : Int) - 1)).mono fun e w5 ⟨⟨p5, c5, he, ho5⟩, k5⟩ => ⟨_, _, _, he, .of_k0 k5, ?_⟩⟩
   have h5 := h4.k0 k5
   refine ⟨(xsame_any (M.ls g ((j : Int) - 1)) p5 p4 c5 c4 w5 (RowA.own ho5 sbC_length (by decide)) ((RowA.own ho4 sbC_length (by decide)).k0 k5) (by have := lsl g ((j : Int) - 1); omega) (lso g ((j : Int) - 1))).mono fun e w6 ⟨he, k6⟩ => ⟨_, he, .of_k0 k6, bsp_intro (fun _ => ?_) (fun h => by cases h)⟩⟩
   have h6 := h5.k0 k6
   refine ⟨(h6.count r (by omega) hG g ((j : Int) - 1)).mono fun e w7 ⟨he, k7⟩ => ⟨_, he, .of_k0 k7, bsp_intro (fun h => by simp at h) (fun _ => ?_)⟩⟩
   rw [wr64 (by omega) (by omega)]
   exact ⟨⟨j + 1, by simp, hlt2, (((k3.trans k4).trans k5).trans k6).trans k7⟩, by show 6 - ((j : Int) - 1 + 1 + 1).toNat < 6 - ((j : Int) - 1 + 1).toNat; omega⟩
  refine ⟨(h3.mods r g hgs).mono fun e w4 ⟨⟨p4, c4, he, ho4⟩, k4⟩ => ⟨_, _, _, he, .of_k0 k4, ?_⟩⟩
  have h4 := h3.k0 k4
  refine ⟨(xmods_any h4.mr (by omega) g).mono fun e w5 ⟨he, k5⟩ => ⟨_, _, _, he, .of_k0 k5, bsp_intro (fun h => by simp at h) (fun _ => ?_)⟩⟩
  have h5 := h4.k0 k5
  have hmd := om.md g
  have hR4 : RowA auC 16 w5 p4 (M.md g).l := (RowA.own ho4 auC_length (by decide)).k0 k5
  have hR5 := h5.mr.rowM g
  refine ⟨fun vs wx => ∃ j : Nat, vs = [.int .i64 (j : Int)] /\ j <= (M.md g).l.length /\ K0 w5 wx, fun vs _ => (match vs with | .int _ a :: _ => (M.md g).l.length - a.toNat | _ => 0), ⟨0, rfl, by omega, .refl _ _⟩, ?_⟩
  rintro x3 w6 ⟨jj, hv, hjj, k6⟩
  simp only [List.cons.injEq, Value.int.injEq, true_and, and_true] at hv
  subst hv
  refine bsp_intro (fun hlt3 => ?_) (fun _ => ?_)
  ·have hlt3 : jj < (M.md g).l.length := by simp at hlt3; omega
   obtain ⟨y, b1, o1, hy, hp1, hat1⟩ := (hR4.k0 k6).get hlt3
   obtain ⟨y2, b2, o2, hy2, hp2, hat2⟩ := (hR5.k0 k6).get hlt3
   rw [hy] at hy2
   cases hy2
   have hby := hmd.1 y (List.mem_of_getElem? hy)
   rw [Int.toNat_natCast]
   refine nn_is hp1 ⟨⟨by omega, by omega⟩, y, fun W hW => hat1.k0 (hW.kk rfl), nn_is hp2 ⟨⟨by omega, by omega⟩, y, fun W hW => hat2.k0 (hW.kk rfl), _, auEq hby hby, bsp_intro (fun h => by simp at h) (fun _ W hW => ?_)⟩⟩
   rw [inc64 (by omega)]
   exact ⟨⟨jj + 1, rfl, hlt3, k6.trans (hW.kk rfl)⟩, by simp only [Int.toNat_natCast]; omega⟩
  ·rw [inc64 (by omega)]
   exact ⟨⟨i + 1, rfl, hlt, ((k3.trans k4).trans k5).trans k6⟩, by simp only [Int.toNat_natCast]; omega⟩
 refine ⟨fun vs wx => ∃ i : Nat, vs = [.int .i64 (i : Int)] /\ i <= M.es.length /\ K0 w wx, fun vs _ => (match vs with | .int _ a :: _ => M.es.length - a.toNat | _ => 0), ⟨0, rfl, by omega, k1⟩, ?_⟩
 rintro x2 w2 ⟨ii, hv, hii, k2⟩
 simp only [List.cons.injEq, Value.int.injEq, true_and, and_true] at hv
 subst hv
 have h2 := h.k0 k2
 refine ⟨_, _, _, h2.mr.cE, bsp_intro (fun hlt => ?_) (fun _ => ?_)⟩
 ·have hlt : ii < M.es.length := by simp at hlt; omega
  obtain ⟨y, bb, o, hy, hp, hat⟩ := h2.mr.rowE.get hlt
  have hym := List.mem_of_getElem? hy
  have oy := (om.es y hym).1
  have hyg := (om.es y hym).2
  have hfd : fdL M.es y.s.ky = some y := (fd_iff r.dis).2 ⟨hym, rfl⟩
  have hWin : hdW y now = inE y now := by
   unfold hdW
   cases hin : inE y now with
   | false => simp
   | true => rw [r.le y hym (inE_le hin)]; rfl
  rw [Int.toNat_natCast]
  refine ⟨_, _, _, h2.mr.cE, nn_is hp ⟨⟨by omega, by omega⟩, y.s.id, y.s.g, y.s.tx, y.s.r, y.s.st, y.s.mo, y.s.de, y.s.rs, y.le, y.ho, y.si, hat, fun n W3 hW3 => ?_⟩⟩
  have k3 := k2.trans (hW3.kk rfl : K0 w2 W3)
  have a3 := hW3.cells 0 rfl
  clear hW3
  have hget := (h.k0 k3).get r y.s.id oy.s.id y.s.g (by omega)
  rw [show (idI y.s.id, y.s.g) = y.s.ky from rfl, hfd] at hget
  refine ⟨hget.mono fun e w4 ⟨he, k4⟩ => ⟨y.s.id, y.s.g, y.s.tx, y.s.r, y.s.st, y.s.mo, y.s.de, y.s.rs, true, he, .of_k0 k4, fun n1 W5 hW5 => ?_⟩⟩
  have k5 := (k3.trans k4).trans (hW5.kk rfl : K0 w4 W5)
  clear hW5
  refine ⟨((h.k0 k5).hld r y.s.id oy.s.id y.s.g (by omega) now hfd).mono fun e w6 ⟨he, k6⟩ => ⟨_, _, he, .of_k0 k6, fun n2 W7 hW7 => ?_⟩⟩
  have k7 := (k5.trans k6).trans (hW7.kk rfl : K0 w6 W7)
  clear hW7
  refine ⟨(xholder_any y now oy.si W7).mono fun e w8 ⟨he, k8⟩ => ⟨_, _, he, .of_k0 k8, fun n3 W9 hW9 => ?_⟩⟩
  have k9 := (k7.trans k8).trans (hW9.kk rfl : K0 w8 W9)
  have a9 := hW9.cells 3 rfl
  clear hW9
  refine ⟨(xmin_any now W9).mono fun e w10 ⟨he, k10⟩ => ⟨_, he, .of_k0 k10, ?_⟩⟩
  have k11 := k9.trans k10
  have hfA : BY (if (minB now && inE y now) = true then y.ho else fun _ => 0) := by
   split
   ·exact oy.ho
   ·exact by0
  refine bsp_intro (fun hm => ?_) (fun hm => ?_)
  ·have hm : minB now = false := minB_ft hm
   have e0 : (if (minB now && inE y now) = true then y.ho else fun _ => 0) = fun _ => 0 := by rw [hm]; rfl
   refine ⟨y.s.id, y.s.g, y.s.tx, y.s.r, y.s.st, y.s.mo, y.s.de, y.s.rs, gimp_intro fun _ W hW => AtL_block (hW.cells 3 rfl) rfl, _, gimp_intro fun _ => sbEq oy.s oy.s, _, gimp_intro fun _ => auEq hfA by0, bsp_intro (fun hbad => ?_) (fun _ W hW => ?_)⟩
   ·exfalso
    rw [e0, hm] at hbad
    simp at hbad
   ·rw [inc64 (by omega)]
    exact ⟨⟨ii + 1, rfl, hlt, hW.k0 k11⟩, by simp only [Int.toNat_natCast]; omega⟩
  ·have hm : minB now = true := minB_ff hm
   have e0 : (if (minB now && inE y now) = true then y.ho else fun _ => 0) = hdA y now := by
    unfold hdA
    rw [hm, hWin, Bool.true_and]
   refine ⟨y.s.id, y.s.g, y.s.tx, y.s.r, y.s.st, y.s.mo, y.s.de, y.s.rs, gimp_intro fun _ => AtL_block (k10.blk a9 (fun h => h)) rfl, _, gimp_intro fun _ => sbEq oy.s oy.s, _, gimp_intro fun _ => auEq hfA (hdA_by oy now), bsp_intro (fun hbad => ?_) (fun _ => ?_)⟩
   ·exfalso
    rw [e0, hWin, hm] at hbad
    simp at hbad
   ·rw [inc64 (by omega)]
    exact ⟨⟨ii + 1, rfl, hlt, k11⟩, by simp only [Int.toNat_natCast]; omega⟩
 ·have hget := h2.get r (k39 9) (k39_BY (by decide)) kG (by decide)
  rw [fdL_no hz] at hget
  refine ⟨hget.mono fun e w3 ⟨he, k3⟩ => ⟨enz.s.id, enz.s.g, enz.s.tx, enz.s.r, enz.s.st, enz.s.mo, enz.s.de, enz.s.rs, false, he, .of_k0 k3, fun n W hW => ⟨rfl, (k2.trans k3).trans (hW.kk rfl)⟩⟩⟩
end Go.Proofs.YtfacflbmlfbeeaaGreatDoor
namespace Go.Proofs.YtfacflbmlfbeeaaGreatDoor
set_option maxRecDepth 100000
set_option linter.unusedVariables false
def VC_qclone (b : Nat) (w : World) (R : Ending -> World -> Prop) : Prop := ∃ (x : Int) (x_1 : Int), ∃ (x_2 : Int) (x_3 : Option Nat) (x_4 : Option Nat), AtL w b 0 [Value.int .i64 x, .int .i64 x_1, .int .i64 x_2, .map x_3, .map x_4] /\ ∀ (n : Nat) (W : World), Loc w.heap.size [Blk.mk n 98 [Value.int .i64 x, .int .i64 x_1, .int .i64 x_2, .map x_3, .map x_4] (wrM 2)] w W -> ∀ (n_1 : Nat) (w1 : World), NewB W (Obj.map #[] 0) n_1 w1 -> KeptL [n] W w1 /\ ∃ (x_5 : Option Nat), (∀ (W : World), Loc w.heap.size [Blk.mk n 98 [Value.int .i64 x, .int .i64 x_1, .int .i64 x_2, .map (some n_1), .map x_4] (wrM 0)] w1 W -> W.cell? (Addr.mk b (0 + 3) none) = some (.map x_5)) /\ ∀ (W : World), Loc w.heap.size [Blk.mk n 98 [Value.int .i64 x, .int .i64 x_1, .int .i64 x_2, .map (some n_1), .map x_4] (wrM 0)] w1 W -> ∃ (n_2 : Nat) (w1 : World), RngP Tryz.prog 95 (.map x_5) n_2 W w1 /\
 KeptL [n] W w1 /\ ∃ (I : List Value -> World -> Prop) (m : List Value -> World -> Nat), I [] w1 /\ ∀ (w' : World), I [] w' -> Loc w.heap.size [Blk.mk n 98 [Value.int .i64 x, .int .i64 x_1, .int .i64 x_2, .map (some n_1), .map x_4] 0] w' w' -> ∃ (b_1 : Bool) (r : List Value) (w1 : World), NxtP Tryz.prog (.pointer (some (Addr.mk n_2 0 none))) b_1 r w' w1 /\ KeptL [n] w' w1 /\ bsp b_1 (∃ (x_6 : ByteArray) (p : Option Addr), ∃ (n_3 : Nat) (c : Nat), EntP Tryz.prog (.pointer (some (Addr.mk n_2 0 none))) (.tuple #[.string x_6, .slice p n_3 c]) w1 /\ ∀ (W : World), Loc w.heap.size [Blk.mk n 98 [Value.int .i64 x, .int .i64 x_1, .int .i64 x_2, .map (some n_1), .map x_4] 0] w1 W -> ∃ (S : World -> Prop), S W /\ ∃ (x : Option Nat), (∀ (w' : World), S w' -> w'.cell? (Addr.mk n (0 + 3) none) = some (.map x)) /\ CallsS Tryz.prog 47 #[.slice p n_3 c] W
 fun (e : Ending) (w'_1 : World) => ∃ (p : Option Addr) (n_4 : Nat) (c : Nat), e = .returned (.slice p n_4 c) /\ S w'_1 /\ ∃ (w1 : World), UpdP Tryz.prog 95 (.map x) (.string x_6) (.slice p n_4 c) w'_1 w1 /\ KeptL [n] W w1 /\ I [] w1 /\ m [] w1 < m [] w') (∀ (n_3 : Nat) (w1_1 : World), NewB w1 (Obj.map #[] 0) n_3 w1_1 -> KeptL [n] w1 w1_1 /\ ∃ (x_6 : Option Nat), (∀ (W : World), Loc w.heap.size [Blk.mk n 98 [Value.int .i64 x, .int .i64 x_1, .int .i64 x_2, .map (some n_1), .map (some n_3)] (wrM 0)] w1_1 W -> W.cell? (Addr.mk b (0 + 4) none) = some (.map x_6)) /\ ∀ (W : World), Loc w.heap.size [Blk.mk n 98 [Value.int .i64 x, .int .i64 x_1, .int .i64 x_2, .map (some n_1), .map (some n_3)] (wrM 0)] w1_1 W -> CallsS Tryz.prog 83 #[.map (some n_3), .map x_6] W fun (e : Ending) (w' : World) => e = .returned (.tuple #[]) /\ KeptL [n] W w' /\
 R (.returned (.pointer (some (Addr.mk n 0 none)))) w')
theorem vc_qclone (b : Nat) (w : World) (R : Ending -> World -> Prop) (h : VC_qclone b w R) : Calls Tryz.prog 45 ([Value.pointer (some { block := b, off := 0 })] : List Value).toArray w R :=
 calls_of_exec2' (loops := [(6, [])]) (tails := [(8, 4), (10, 6)]) (joins := []) (boxes := []) (rngs := [(17, 95)]) (c := Tryz.f45.body.getD .skip) pur1_ok Tryz.func45 (by kernel_rfl) (by kernel_rfl) h
def VC_qequal (b : Nat) (d : Nat) (w : World) (R : Ending -> World -> Prop) : Prop := ∀ (W : World), Loc w.heap.size [] w W -> ∃ (S : World -> Prop), S W /\ ∃ (x : Int), (∀ (w' : World), S w' -> w'.cell? (Addr.mk b 0 none) = some (.int .i64 x)) /\ ∃ (x_1 : Int), (∀ (w' : World), S w' -> w'.cell? (Addr.mk d 0 none) = some (.int .i64 x_1)) /\ ∃ (x_2 : Int), gimp (x == x_1) (∀ (w' : World), S w' -> w'.cell? (Addr.mk b (0 + 1) none) = some (.int .i64 x_2)) /\ ∃ (x_3 : Int), gimp (x == x_1) (∀ (w' : World), S w' -> w'.cell? (Addr.mk d (0 + 1) none) = some (.int .i64 x_3)) /\ ∃ (x_4 : Option Nat), gimp (x == x_1 && x_2 == x_3) (∀ (w' : World), S w' -> w'.cell? (Addr.mk b (0 + 4) none) = some (.map x_4)) /\ ∃ (x_5 : Option Nat), gimp (x == x_1 && x_2 == x_3) (∀ (w' : World), S w' -> w'.cell? (Addr.mk d (0 + 4) none) = some (.map x_5)) /\ bsp (x == x_1 && x_2 == x_3)
 (CallsS Tryz.prog 84 #[.map x_4, .map x_5] W fun (e : Ending) (w' : World) => ∃ (x : Bool), e = .returned (.bool x) /\ S w' /\ ∃ (x_6 : Option Nat), gimp (true && x) (∀ (w' : World), S w' -> w'.cell? (Addr.mk b (0 + 3) none) = some (.map x_6)) /\ ∃ (x_7 : Option Nat), gimp (true && x) (∀ (w' : World), S w' -> w'.cell? (Addr.mk d (0 + 3) none) = some (.map x_7)) /\ bsp (true && x) (CallsS Tryz.prog 85 #[.map x_6, .map x_7, Value.func (Fn.func 51) #[] #[]] w' fun (e : Ending) (w' : World) => ∃ (x : Bool), e = .returned (.bool x) /\ KeptL [] W w' /\ R (.returned (.bool (true && x))) w') (KeptL [] W w' /\ R (.returned (.bool false)) w')) (S W /\ ∃ (x : Option Nat), True /\ ∃ (x : Option Nat), True /\ KeptL [] W W /\ R (.returned (.bool false)) W)
theorem vc_qequal (b : Nat) (d : Nat) (w : World) (R : Ending -> World -> Prop) (h : VC_qequal b d w R) : Calls Tryz.prog 46 ([Value.pointer (some { block := b, off := 0 }), .pointer (some { block := d, off := 0 })] : List Value).toArray w R :=
 calls_of_exec2' (loops := []) (tails := [(3, 29)]) (joins := []) (boxes := []) (rngs := []) (c := Tryz.f46.body.getD .skip) pur1_ok Tryz.func46 (by kernel_rfl) (by kernel_rfl) h
end Go.Proofs.YtfacflbmlfbeeaaGreatDoor
namespace Go.Proofs.YtfacflbmlfbeeaaGreatDoor
set_option maxRecDepth 100000
set_option linter.unusedVariables false
def VC_mcopy (x : Option Nat) (y : Option Nat) (w : World) (R : Ending -> World -> Prop) : Prop := ∃ (n : Nat) (w1 : World), RngP Tryz.prog 96 (.map y) n w w1 /\ KeptL [] w w1 /\ ∃ (I : List Value -> World -> Prop) (m : List Value -> World -> Nat), I [] w1 /\ ∀ (w' : World), I [] w' -> ∃ (b : Bool) (r : List Value) (w1 : World), NxtP Tryz.prog (.pointer (some (Addr.mk n 0 none))) b r w' w1 /\ KeptL [] w' w1 /\ bsp b (∃ (f : Nat -> Int) (x_1 : ByteArray), ∃ (f_1 : Nat -> Int) (x_2 : ByteArray), ∃ (x_3 : ByteArray) (x_4 : Int), ∃ (x_5 : Int) (f_2 : Nat -> Int), ∃ (x_6 : Int) (x_7 : ByteArray), ∃ (x_8 : Bool) (f_3 : Nat -> Int) (x_9 : Int), EntP Tryz.prog (.pointer (some (Addr.mk n 0 none))) (.tuple #[.agg (arrI .u8 f 32 0 ++ [Value.string x_1]).toArray, .agg (arrI .u8 f_1 32 0 ++ ([Value.string x_2,
 .string x_3, .int .i64 x_4, .int .i64 x_5] ++ arrI .u8 f_2 16 0 ++ ([Value.int .i64 x_6, .string x_7, .bool x_8] ++ arrI .u8 f_3 16 0 ++ [Value.int .i64 x_9]))).toArray]) w1 /\ ∀ (n n_1 : Nat) (W : World), Loc w.heap.size [Blk.mk n_1 107 (arrI .u8 f_1 32 0 ++ ([Value.string x_2, .string x_3, .int .i64 x_4, .int .i64 x_5] ++ arrI .u8 f_2 16 0 ++ ([Value.int .i64 x_6, .string x_7, .bool x_8] ++ arrI .u8 f_3 16 0 ++ [Value.int .i64 x_9]))) (wrM 2), Blk.mk n 103 (arrI .u8 f 32 0 ++ [Value.string x_1]) (wrM 2)] w1 W -> ∃ (w1 : World), UpdP Tryz.prog 96 (.map x) (.agg (arrI .u8 f 32 0 ++ [Value.string x_1]).toArray) (.agg (arrI .u8 f_1 32 0 ++ ([Value.string x_2, .string x_3, .int .i64 x_4, .int .i64 x_5] ++ arrI .u8 f_2 16 0 ++ ([Value.int .i64 x_6, .string x_7, .bool x_8] ++ arrI .u8 f_3 16 0 ++ [Value.int .i64 x_9]))).toArray) W w1 /\ KeptL [n_1, n] W w1 /\ I [] w1 /\ m [] w1 < m [] w')
 (R (.returned (.tuple #[])) w1)
theorem vc_mcopy (x : Option Nat) (y : Option Nat) (w : World) (R : Ending -> World -> Prop) (h : VC_mcopy x y w R) : Calls Tryz.prog 83 ([Value.map x, .map y] : List Value).toArray w R :=
 calls_of_exec2' (loops := [(1, [])]) (tails := []) (joins := []) (boxes := []) (rngs := [(7, 96)]) (c := Tryz.f83.body.getD .skip) pur1_ok Tryz.func83 (by kernel_rfl) (by kernel_rfl) h
def VC_mequal (x : Option Nat) (y : Option Nat) (w : World) (R : Ending -> World -> Prop) : Prop := ∃ (n : Int), LenP Tryz.prog 96 (.map x) n w /\ ∃ (n_1 : Int), LenP Tryz.prog 96 (.map y) n_1 w /\ bsp (n != n_1) (R (.returned (.bool false)) w) (∃ (n : Nat) (w1 : World), RngP Tryz.prog 96 (.map x) n w w1 /\ KeptL [] w w1 /\ ∃ (I : List Value -> World -> Prop) (m : List Value -> World -> Nat), I [] w1 /\ ∀ (w' : World), I [] w' -> ∃ (b : Bool) (r : List Value) (w1 : World), NxtP Tryz.prog (.pointer (some (Addr.mk n 0 none))) b r w' w1 /\ KeptL [] w' w1 /\ bsp b (∃ (f : Nat -> Int) (x : ByteArray), ∃ (f_1 : Nat -> Int) (x_1 : ByteArray), ∃ (x_2 : ByteArray) (x_3 : Int), ∃ (x_4 : Int) (f_2 : Nat -> Int), ∃ (x_5 : Int) (x_6 : ByteArray), ∃ (x_7 : Bool) (f_3 : Nat -> Int) (x_8 : Int), EntP Tryz.prog (.pointer (some (Addr.mk n 0 none))) (.tuple #[.agg
 (arrI .u8 f 32 0 ++ [Value.string x]).toArray, .agg (arrI .u8 f_1 32 0 ++ ([Value.string x_1, .string x_2, .int .i64 x_3, .int .i64 x_4] ++ arrI .u8 f_2 16 0 ++ ([Value.int .i64 x_5, .string x_6, .bool x_7] ++ arrI .u8 f_3 16 0 ++ [Value.int .i64 x_8]))).toArray]) w1 /\ ∀ (n n_2 : Nat), ∃ (f_4 : Nat -> Int) (x_9 : ByteArray), ∃ (x_10 : ByteArray) (x_11 : Int), ∃ (x_12 : Int) (f_5 : Nat -> Int), ∃ (x_13 : Int) (x_14 : ByteArray), ∃ (x_15 : Bool) (f_6 : Nat -> Int), ∃ (x_16 : Int) (b : Bool), (∀ (W : World), Loc w.heap.size [Blk.mk n_2 107 (arrI .u8 f_1 32 0 ++ ([Value.string x_1, .string x_2, .int .i64 x_3, .int .i64 x_4] ++ arrI .u8 f_2 16 0 ++ ([Value.int .i64 x_5, .string x_6, .bool x_7] ++ arrI .u8 f_3 16 0 ++ [Value.int .i64 x_8]))) (wrM 2), Blk.mk n 103 (arrI .u8 f 32 0 ++ [Value.string x]) (wrM 2)] w1 W -> LookP Tryz.prog 96 (.map y) (.agg
 (arrI .u8 f 32 0 ++ [Value.string x]).toArray) true (.tuple #[.agg (arrI .u8 f_4 32 0 ++ ([Value.string x_9, .string x_10, .int .i64 x_11, .int .i64 x_12] ++ arrI .u8 f_5 16 0 ++ ([Value.int .i64 x_13, .string x_14, .bool x_15] ++ arrI .u8 f_6 16 0 ++ [Value.int .i64 x_16]))).toArray, .bool b]) W) /\ ∀ (n_3 : Nat), ∃ (r : Bool), gimp (!!b) (EqP Tryz.prog 107 (.agg (arrI .u8 f_1 32 0 ++ ([Value.string x_1, .string x_2, .int .i64 x_3, .int .i64 x_4] ++ arrI .u8 f_2 16 0 ++ ([Value.int .i64 x_5, .string x_6, .bool x_7] ++ arrI .u8 f_3 16 0 ++ [Value.int .i64 x_8]))).toArray) (.agg (arrI .u8 f_4 32 0 ++ ([Value.string x_9, .string x_10, .int .i64 x_11, .int .i64 x_12] ++ arrI .u8 f_5 16 0 ++ ([Value.int .i64 x_13, .string x_14, .bool x_15] ++ arrI .u8 f_6 16 0 ++ [Value.int .i64 x_16]))).toArray) r) /\ bsp (!b || !r) (∀ (W : World), Loc w.heap.size [Blk.mk n_3 107
 (arrI .u8 f_4 32 0 ++ ([Value.string x_9, .string x_10, .int .i64 x_11, .int .i64 x_12] ++ arrI .u8 f_5 16 0 ++ ([Value.int .i64 x_13, .string x_14, .bool x_15] ++ arrI .u8 f_6 16 0 ++ [Value.int .i64 x_16]))) (wrM 2), Blk.mk n_2 107 (arrI .u8 f_1 32 0 ++ ([Value.string x_1, .string x_2, .int .i64 x_3, .int .i64 x_4] ++ arrI .u8 f_2 16 0 ++ ([Value.int .i64 x_5, .string x_6, .bool x_7] ++ arrI .u8 f_3 16 0 ++ [Value.int .i64 x_8]))) (wrM 2), Blk.mk n 103 (arrI .u8 f 32 0 ++ [Value.string x]) (wrM 2)] w1 W -> R (.returned (.bool false)) W) (∀ (W : World), Loc w.heap.size [Blk.mk n_3 107 (arrI .u8 f_4 32 0 ++ ([Value.string x_9, .string x_10, .int .i64 x_11, .int .i64 x_12] ++ arrI .u8 f_5 16 0 ++ ([Value.int .i64 x_13, .string x_14, .bool x_15] ++ arrI .u8 f_6 16 0 ++ [Value.int .i64 x_16]))) (wrM 2), Blk.mk n_2 107 (arrI .u8 f_1 32 0 ++ ([Value.string x_1, .string x_2, .int .i64 x_3,
 .int .i64 x_4] ++ arrI .u8 f_2 16 0 ++ ([Value.int .i64 x_5, .string x_6, .bool x_7] ++ arrI .u8 f_3 16 0 ++ [Value.int .i64 x_8]))) (wrM 2), Blk.mk n 103 (arrI .u8 f 32 0 ++ [Value.string x]) (wrM 2)] w1 W -> I [] W /\ m [] W < m [] w')) (R (.returned (.bool true)) w1))
theorem vc_mequal (x : Option Nat) (y : Option Nat) (w : World) (R : Ending -> World -> Prop) (h : VC_mequal x y w R) : Calls Tryz.prog 84 ([Value.map x, .map y] : List Value).toArray w R :=
 calls_of_exec2' (loops := [(4, [])]) (tails := []) (joins := []) (boxes := []) (rngs := [(15, 96)]) (c := Tryz.f84.body.getD .skip) pur1_ok Tryz.func84 (by kernel_rfl) (by kernel_rfl) h
def VC_meqf (x : Option Nat) (y : Option Nat) (f : FuncId) (fa : Array Value) (fb : Array Value) (w : World) (R : Ending -> World -> Prop) : Prop := ∃ (n : Int), LenP Tryz.prog 95 (.map x) n w /\ ∃ (n_1 : Int), LenP Tryz.prog 95 (.map y) n_1 w /\ bsp (n != n_1) (R (.returned (.bool false)) w) (∃ (n : Nat) (w1 : World), RngP Tryz.prog 95 (.map x) n w w1 /\ KeptL [] w w1 /\ ∃ (I : List Value -> World -> Prop) (m : List Value -> World -> Nat), I [] w1 /\ ∀ (w' : World), I [] w' -> ∃ (b : Bool) (r : List Value) (w1 : World), NxtP Tryz.prog (.pointer (some (Addr.mk n 0 none))) b r w' w1 /\ KeptL [] w' w1 /\ bsp b (∃ (x : ByteArray) (p : Option Addr), ∃ (n_2 : Nat) (c : Nat), EntP Tryz.prog (.pointer (some (Addr.mk n 0 none))) (.tuple #[.string x, .slice p n_2 c]) w1 /\ ∃ (p_1 : Option Addr) (n : Nat), ∃ (c_1 : Nat) (b : Bool),
 LookP Tryz.prog 95 (.map y) (.string x) true (.tuple #[.slice p_1 n c_1, .bool b]) w1 /\ bsp (!!b) (∃ (f_1 : Nat) (a : Array Value) (b : Array Value), Value.func (Fn.func f) fa fb = Value.func (Fn.func f_1) a b /\ okFn Tryz.prog f_1 = true /\ CallsS Tryz.prog f_1 (appA a [Value.slice p n_2 c, .slice p_1 n c_1] b) w1 fun (e : Ending) (w'_1 : World) => ∃ (x : Bool), e = .returned (.bool x) /\ KeptL [] w1 w'_1 /\ bsp (false || !x) (R (.returned (.bool false)) w'_1) (I [] w'_1 /\ m [] w'_1 < m [] w')) (KeptL [] w1 w1 /\ R (.returned (.bool false)) w1)) (R (.returned (.bool true)) w1))
theorem vc_meqf (x : Option Nat) (y : Option Nat) (f : FuncId) (fa : Array Value) (fb : Array Value) (w : World) (R : Ending -> World -> Prop) (h : VC_meqf x y f fa fb w R) : Calls Tryz.prog 85 ([Value.map x, .map y, Value.func (Fn.func f) fa fb] : List Value).toArray w R :=
 calls_of_exec2' (loops := [(4, [])]) (tails := []) (joins := []) (boxes := []) (rngs := [(17, 95)]) (c := Tryz.f85.body.getD .skip) pur1_ok Tryz.func85 (by kernel_rfl) (by kernel_rfl) h
def VC_aeqc39 (p : Option Addr) (n : Nat) (c : Nat) (q : Option Addr) (k : Nat) (d : Nat) (w : World) (R : Ending -> World -> Prop) : Prop := bsp ((↑n : Int) != (↑k : Int)) (R (.returned (.bool false)) w) (∃ (I : List Value -> World -> Prop) (m : List Value -> World -> Nat), I [Value.int .i64 0] w /\ ∀ (x : Int) (w' : World), I [Value.int .i64 x] w' -> bsp (decide (x < (↑n : Int))) (nn true p fun (b o : Nat) => (0 <= x /\ x < (↑n : Int)) /\ ∃ (f : Nat -> Int), (∀ (W : World), Loc w.heap.size [] w' W -> AtL W b (o + x.toNat * 16) (arrI .u8 f 16 0)) /\ nn true q fun (b o : Nat) => (0 <= x /\ x < (↑k : Int)) /\ ∃ (f_1 : Nat -> Int), (∀ (W : World), Loc w.heap.size [] w' W -> AtL W b (o + x.toNat * 16) (arrI .u8 f_1 16 0)) /\ ∃ (r : Bool), EqP Tryz.prog 45 (.agg (arrI .u8 f 16 0).toArray) (.agg (arrI .u8 f_1 16 0).toArray) r /\
 bsp (!r) (∀ (W : World), Loc w.heap.size [] w' W -> R (.returned (.bool false)) W) (∀ (W : World), Loc w.heap.size [] w' W -> I [Value.int .i64 (IntKind.i64.wrap (x + 1))] W /\ m [Value.int .i64 (IntKind.i64.wrap (x + 1))] W < m [Value.int .i64 x] w')) (R (.returned (.bool true)) w'))
theorem vc_aeqc39 (p : Option Addr) (n : Nat) (c : Nat) (q : Option Addr) (k : Nat) (d : Nat) (w : World) (R : Ending -> World -> Prop) (h : VC_aeqc39 p n c q k d w R) : Calls Tryz.prog 51 ([Value.slice p n c, .slice q k d] : List Value).toArray w R :=
 calls_of_exec2' (loops := [(4, [(13, Ck.int .i64)])]) (tails := []) (joins := []) (boxes := []) (rngs := []) (c := Tryz.f51.body.getD .skip) pur1_ok Tryz.func51 (by kernel_rfl) (by kernel_rfl) h
end Go.Proofs.YtfacflbmlfbeeaaGreatDoor
namespace Go.Proofs.YtfacflbmlfbeeaaGreatDoor
open Go.RowKit Go.Sort Go.Maps Classical
def leC (x : En) : List Value := [.bool x.le] ++ (arrI .u8 x.ho 16 0 ++ ([.int .i64 x.si] : List Value))
def leL (x : En) : List Lit := [.bool x.le] ++ ((auI x.ho).map (Lit.int .u8) ++ [.int .i64 x.si])
def enL (x : En) : List Lit := sbL x.s ++ leL x
theorem lits_bool (b : Bool) (D : Nat) : Tryz.prog.keyLits (D + 1) 4 [.bool b] = some [.bool b] := by
 unfold Program.keyLits
 rw [Tryz.underlying4]
theorem En.OK.si64 {x : En} (h : x.OK) : I64 x.si := i64s h.si
theorem leLits {x : En} (h : x.OK) (D : Nat) : Tryz.prog.keyLits (D + 3) 105 (leC x) = some (leL x) := by
 unfold Program.keyLits
 rw [Tryz.underlying105]
 simp only
 have c0 : Tryz.prog.cellsOf 105 = 18 := by kernel_rfl
 rw [if_pos ⟨by rw [c0]; rfl, by decide +kernel⟩]
 have c1 : Tryz.prog.cellsOf 4 = 1 := by kernel_rfl
 have c3 : Tryz.prog.cellsOf 3 = 1 := by kernel_rfl
 have c4 : Tryz.prog.cellsOf 45 = 16 := by kernel_rfl
 simp only [List.mapM_cons, List.mapM_nil, c1, c3, c4]
 have e1 : ((leC x).drop 0).take 1 = [.bool x.le] := rfl
 have e2 : ((leC x).drop 1).take 16 = (auI x.ho).map (Value.int .u8) := rfl
 have e3 : ((leC x).drop 17).take 1 = [.int .i64 x.si] := rfl
 rw [e1, e2, e3, lits_bool, lits_au (auI_len x.ho) (auI_bd h.ho), lits_int h.si64]
 simp [leL]
theorem enLits {x : En} (h : x.OK) (D : Nat) : Tryz.prog.keyLits (D + 4) 107 (enC x) = some (enL x) := by
 unfold Program.keyLits
 rw [Tryz.underlying107]
 simp only
 have c0 : Tryz.prog.cellsOf 107 = 72 := by kernel_rfl
 rw [if_pos ⟨by rw [c0]; rfl, by decide +kernel⟩]
 have c1 : Tryz.prog.cellsOf 48 = 54 := by kernel_rfl
 have c2 : Tryz.prog.cellsOf 105 = 18 := by kernel_rfl
 simp only [List.mapM_cons, List.mapM_nil, c1, c2]
 have e1 : ((enC x).drop 0).take 54 = sbC x.s := rfl
 have e2 : ((enC x).drop 54).take 18 = leC x := rfl
 rw [e1, e2, sbLits h.s, leLits h]
 simp [enL]
theorem enKey {x : En} (h : x.OK) : keyOf Tryz.prog 107 (enV x) = some (.string (keyBytes (enL x))) := by
 unfold keyOf
 rw [Tryz.underlying107]
 simp only
 have h1 : Tryz.prog.keyType 107 = true := by kernel_rfl
 have hf' : (enV x).formed Tryz.prog 107 = true := by
  unfold Value.formed
  rw [Tryz.underlying107]
  have c0 : Tryz.prog.cellsOf 107 = 72 := by kernel_rfl
  simp only
  rw [c0]; rfl
 rw [h1, hf']
 have h2 := enLits h (Tryz.prog.types.size - 3)
 have hsz : 3 <= Tryz.prog.types.size := by decide +kernel
 rw [show Tryz.prog.types.size - 3 + 4 = Tryz.prog.types.size + 1 by omega] at h2
 have : (enV x).cells.toList = enC x := by simp [Value.cells]
 rw [this, h2]
 rfl
theorem enL_inj {x y : En} (h : enL x = enL y) : x.pl = y.pl := by
 unfold enL at h
 obtain ⟨h1, h2⟩ := List.append_inj h (by simp [sbL, idI, auI])
 unfold leL at h2
 obtain ⟨h3, h4⟩ := List.append_inj h2 rfl
 obtain ⟨h5, h6⟩ := List.append_inj h4 (by simp [auI])
 have k2 : auI x.ho = auI y.ho := (List.map_inj_right (fun a b h => by cases h; rfl)).1 h5
 simp only [List.cons.injEq, Lit.bool.injEq, Lit.int.injEq, true_and, and_true] at h3 h6
 unfold En.pl
 rw [sbL_inj h1, h3, k2, h6]
set_option maxRecDepth 100000 in
theorem enEq {x y : En} (hx : x.OK) (hy : y.OK) : EqP Tryz.prog 107 (enV x) (enV y) (decide (x = y)) := by
 refine ⟨fun w => ?_, by kernel_rfl, _, _, rfl, rfl⟩
 have kx := enKey hx
 have ky := enKey hy
 generalize hX : enV x = X at kx ⊢
 generalize hY : enV y = Y at ky ⊢
 obtain ⟨r, hr, hi⟩ := run_equal_deep w (m := 4) (by omega) (by kernel_rfl) (by rw [Tryz.underlying107]) kx ky
 rw [hr]
 congr 1
 rw [Bool.eq_iff_iff, hi, decide_eq_true_eq]
 constructor
 ·intro h
  have h : keyBytes (enL x) = keyBytes (enL y) := by simpa using h
  exact En.pl_eq hx hy (enL_inj (keyLits_inj (enLits hx 0) (enLits hy 0) h))
 ·intro h
  rw [h]
section
variable {α β : Type} [DecidableEq α]
theorem agG {l : List (α × β)} (hd : l.Pairwise fun p q => p.1 ≠ q.1) {k : α} {e : β} : aget l k = some e ↔ (k, e) ∈ l := ⟨aget_mem, aget_at hd⟩
theorem agG_perm {l m : List (α × β)} (hl : l.Pairwise fun p q => p.1 ≠ q.1) (hm : m.Pairwise fun p q => p.1 ≠ q.1) (h : ∀ k, aget l k = aget m k) : l.Perm m := by
 have n1 : l.Nodup := hl.imp fun h e => h (by rw [e])
 have n2 : m.Nodup := hm.imp fun h e => h (by rw [e])
 refine (List.perm_ext_iff_of_nodup n1 n2).2 fun ⟨k, e⟩ => ?_
 rw [<- agG hl, <- agG hm, h]
theorem perm_agG {l m : List (α × β)} (hl : l.Pairwise fun p q => p.1 ≠ q.1) (hm : m.Pairwise fun p q => p.1 ≠ q.1) (h : l.Perm m) (k : α) : aget l k = aget m k := opt_ext fun e => by
 rw [agG hl, agG hm, h.mem_iff]
end
theorem sub_perm39 {α : Type} : ∀ {l m : List α}, l.Nodup -> (∀ x ∈ l, x ∈ m) -> m.length <= l.length -> l.Perm m
 | [], m, _, _, h => by
  have : m = [] := List.eq_nil_of_length_eq_zero (by simpa using h)
  subst this; exact .refl _
 | x :: l, m, hn, hs, hl => by
  obtain ⟨j, hj⟩ := List.getElem?_of_mem (hs x List.mem_cons_self)
  have hp := erase_perm39 m j x hj
  have hn2 := List.nodup_cons.1 hn
  have h1 := hp.length_eq
  simp only [List.length_cons] at h1 hl
  refine (List.Perm.cons x (sub_perm39 hn2.2 (fun y hy => ?_) (by omega))).trans hp.symm
  rcases List.mem_cons.1 (hp.subset (hs y (List.mem_cons_of_mem _ hy))) with rfl | h
  ·exact absurd hy hn2.1
  ·exact h
noncomputable def okE39 (l2 : List (Ky × En)) (p : Ky × En) : Bool := decide (aget l2 p.1 = some p.2)
noncomputable def eqEs (l1 l2 : List (Ky × En)) : Bool := decide (l1.length = l2.length) && l1.all (okE39 l2)
noncomputable def okM39 (l2 : List (ByteArray × MX)) (p : ByteArray × MX) : Bool := decide (∃ y, aget l2 p.1 = some y /\ p.2.l = y.l)
noncomputable def eqMs (l1 l2 : List (ByteArray × MX)) : Bool := decide (l1.length = l2.length) && l1.all (okM39 l2)
theorem eqEs_iff {l1 l2 : List (Ky × En)} (h1 : l1.Pairwise fun p q => p.1 ≠ q.1) (h2 : l2.Pairwise fun p q => p.1 ≠ q.1) : eqEs l1 l2 = true ↔ ∀ k, aget l1 k = aget l2 k := by
 unfold eqEs
 rw [Bool.and_eq_true, decide_eq_true_eq, List.all_eq_true]
 constructor
 ·rintro ⟨hl, ha⟩
  refine perm_agG h1 h2 (sub_perm39 (h1.imp fun h e => h (by rw [e])) (fun p hp => ?_) (by omega))
  have := ha p hp
  unfold okE39 at this
  rw [decide_eq_true_eq] at this
  exact aget_mem this
 ·intro h
  refine ⟨(agG_perm h1 h2 h).length_eq, fun p hp => ?_⟩
  unfold okE39
  rw [decide_eq_true_eq, <- h]
  exact aget_at h1 hp
def mpl (l : List (ByteArray × MX)) : List (ByteArray × List (Nat -> Int)) := amap (fun x : MX => x.l) l
theorem mpl_dis {l : List (ByteArray × MX)} (h : l.Pairwise fun p q => p.1 ≠ q.1) : (mpl l).Pairwise fun p q => p.1 ≠ q.1 := by
 unfold mpl amap
 exact List.pairwise_map.2 h
theorem mpl_get (l : List (ByteArray × MX)) (g : ByteArray) : aget (mpl l) g = (aget l g).map (·.l) := aget_amap _ _ _
theorem eqMs_iff {l1 l2 : List (ByteArray × MX)} (h1 : l1.Pairwise fun p q => p.1 ≠ q.1) (h2 : l2.Pairwise fun p q => p.1 ≠ q.1) : eqMs l1 l2 = true ↔ ∀ g, aget (mpl l1) g = aget (mpl l2) g := by
 have e1 : (mpl l1).length = l1.length := by unfold mpl amap; rw [List.length_map]
 have e2 : (mpl l2).length = l2.length := by unfold mpl amap; rw [List.length_map]
 unfold eqMs
 rw [Bool.and_eq_true, decide_eq_true_eq, List.all_eq_true]
 constructor
 ·rintro ⟨hl, ha⟩
  refine perm_agG (mpl_dis h1) (mpl_dis h2) (sub_perm39 ((mpl_dis h1).imp fun h e => h (by rw [e])) (fun p hp => ?_) (by omega))
  unfold mpl amap at hp
  obtain ⟨x, hx, rfl⟩ := List.mem_map.1 hp
  have := ha x hx
  unfold okM39 at this
  rw [decide_eq_true_eq] at this
  obtain ⟨y, hy, e⟩ := this
  refine aget_mem ?_
  rw [mpl_get, hy]
  show some y.l = some x.2.l
  rw [e]
 ·intro h
  refine ⟨by have := (agG_perm (mpl_dis h1) (mpl_dis h2) h).length_eq; omega, fun p hp => ?_⟩
  unfold okM39
  rw [decide_eq_true_eq]
  have h3 := h p.1
  rw [mpl_get, mpl_get, aget_at h1 hp] at h3
  cases hg : aget l2 p.1 with
  | none => rw [hg] at h3; cases h3
  | some y =>
   rw [hg] at h3
   simp only [Option.map_some, Option.some.injEq] at h3
   exact ⟨y, rfl, h3⟩
theorem mpl_iff {q r : Qu} : (∀ g, aget (mpl q.ms) g = aget (mpl r.ms) g) ↔ ∀ g, (aget q.ms g).isSome = (aget r.ms g).isSome /\ (q.md g).l = (r.md g).l := by
 constructor
 ·intro h g
  have := h g
  rw [mpl_get, mpl_get] at this
  unfold Qu.md
  cases h1 : aget q.ms g <;> cases h2 : aget r.ms g <;> rw [h1, h2] at this <;> simp at this ⊢
  exact this
 ·intro h g
  obtain ⟨a1, a2⟩ := h g
  unfold Qu.md at a2
  rw [mpl_get, mpl_get]
  cases h1 : aget q.ms g <;> cases h2 : aget r.ms g <;> rw [h1, h2] at a1 a2 <;> simp at a1 a2 ⊢
  exact a2
theorem mapLen {α : Type} {k t e : TypeId} {enc : α -> Value} {w : World} {b : Nat} {l : List (α × Value)} (h : MapB Tryz.prog k enc w b l) (ht : Tryz.prog.underlying t = some (.map k e)) : LenP Tryz.prog t (.map (some b)) (l.length : Nat) w := by
 obtain ⟨es, c, hb, he⟩ := h.blk
 have hl : es.size = l.length := by
  have := congrArg List.length he
  simpa using this
 constructor
 intro ty
 simp [Builtin.len_, run_underlying ht, MapKept.run_getObj_map hb, Result.andThen, hl, goInt]
theorem aeqc_any (A B : List (Nat -> Int)) (p : Option Addr) (c : Nat) (q : Option Addr) (d : Nat) (w : World) (hp : RowA auC 16 w p A) (hq : RowA auC 16 w q B) (hA : ∀ x ∈ A, BY x /\ NZ 16 x) (hB : ∀ x ∈ B, BY x /\ NZ 16 x) (hl : A.length <= 1000000) :
  Calls Tryz.prog 51 #[.slice p A.length c, .slice q B.length d] w fun e w' => e = .returned (.bool (decide (A = B))) /\ K0 w w' := by
 refine vc_aeqc39 p A.length c q B.length d w _ (bsp_intro (fun h => ?_) (fun h => ?_))
 ·have h : A.length ≠ B.length := fun e => by rw [e] at h; simp at h
  exact ⟨by rw [decide_eq_false fun e => h (by rw [e])], .refl _ _⟩
 have h : A.length = B.length := by simp at h; omega
 refine ⟨fun vs w' => ∃ i : Nat, vs = [.int .i64 (i : Int)] /\ i <= A.length /\ A.take i = B.take i /\ K0 w w', fun vs _ => (match vs with | .int _ a :: _ => A.length - a.toNat | _ => 0), ⟨0, rfl, by omega, by rw [List.take_zero, List.take_zero], .refl _ _⟩, ?_⟩
 rintro x w1 ⟨i, hv, hi, heq, k1⟩
 simp only [List.cons.injEq, Value.int.injEq, true_and, and_true] at hv
 subst hv
 refine bsp_intro (fun hlt => ?_) (fun hge => ?_)
 ·have hlt : i < A.length := by simp at hlt; omega
  obtain ⟨x, b, o, hx, hpb, hat⟩ := (hp.k0 k1).get hlt
  obtain ⟨y, b2, o2, hy, hqb, hat2⟩ := (hq.k0 k1).get (k := i) (by omega)
  have ox := hA x (List.mem_of_getElem? hx)
  have oy := hB y (List.mem_of_getElem? hy)
  rw [Int.toNat_natCast]
  refine nn_is hpb ⟨⟨by omega, by omega⟩, x, fun W hW => hat.k0 (hW.kk rfl), nn_is hqb ⟨⟨by omega, by omega⟩, y, fun W hW => hat2.k0 (hW.kk rfl), _, auEq ox.1 oy.1, bsp_intro (fun hn W hW => ?_) (fun he W hW => ?_)⟩⟩
  ·have hn : auI x ≠ auI y := by simpa using hn
   refine ⟨?_, k1.trans (hW.kk rfl)⟩
   rw [decide_eq_false]
   intro e
   rw [e, hy] at hx
   cases hx
   exact hn rfl
  ·have he : auI x = auI y := by simpa using he
   have he : x = y := nz_eq ox.2 oy.2 he
   rw [inc64 (by omega)]
   exact ⟨⟨i + 1, rfl, hlt, by rw [take_snoc hx, take_snoc hy, heq, he], k1.trans (hW.kk rfl)⟩, by simp only [Int.toNat_natCast]; omega⟩
 ·have hi2 : i = A.length := by simp at hge; omega
  refine ⟨?_, k1⟩
  rw [decide_eq_true]
  rw [List.take_of_length_le (by omega), List.take_of_length_le (by omega)] at heq
  exact heq
set_option maxRecDepth 100000 in
set_option maxHeartbeats 4000000 in
theorem mequal_any {w : World} {b1 b2 : Nat} {l1 l2 : List (Ky × En)} (h1 : MapB Tryz.prog 103 kyV w b1 (amap enV l1)) (h2 : MapB Tryz.prog 103 kyV w b2 (amap enV l2)) (o1 : ∀ k x, (k, x) ∈ l1 -> x.OK /\ k = x.s.ky) (o2 : ∀ k x, (k, x) ∈ l2 -> x.OK /\ k = x.s.ky) :
  Calls Tryz.prog 84 #[.map (some b1), .map (some b2)] w fun e w' => e = .returned (.bool (eqEs l1 l2)) /\ K0 w w' := by
 have e1 : (amap enV l1).length = l1.length := by simp [amap]
 have e2 : (amap enV l2).length = l2.length := by simp [amap]
 have n1 := mapLen h1 (t := 96) Tryz.underlying96
 have n2 := mapLen h2 (t := 96) Tryz.underlying96
 rw [e1] at n1
 rw [e2] at n2
 refine vc_mequal (some b1) (some b2) w _ ⟨_, n1, _, n2, bsp_intro (fun h => ?_) (fun h => ?_)⟩
 ·have h : ¬ l1.length = l2.length := fun e => by rw [e] at h; simp at h
  refine ⟨?_, .refl _ _⟩
  unfold eqEs
  rw [decide_eq_false h]; rfl
 have hle : l1.length = l2.length := by simp at h; omega
 have d1 : l1.Pairwise fun p q => p.1 ≠ q.1 := by have := h1.dis; unfold amap at this; rwa [List.pairwise_map] at this
 obtain ⟨r, w1, hrun, hR, k1, gr, rlt⟩ := h1.range (t := 96) Tryz.underlying96
 have hm1 := h1.lt
 have hm2 := h2.lt
 refine ⟨r, w1, hrun, .of_k0 k1, ?_⟩
 refine ⟨fun vs w' => ∃ todo : List (Ky × En), vs = [] /\ RngB kyV w' r b1 (amap enV todo) /\ todo.Sublist l1 /\ l1.all (okE39 l2) = todo.all (okE39 l2) /\ Kp (· = r) w1 w',
  fun _ w' => leftN w' r b1, ⟨l1, rfl, hR, .refl _, rfl, .refl _ _⟩, ?_⟩
 rintro w4 ⟨todo, _, hR4, hsub, hall, k4⟩
 have kw4 : K0 w w4 := k1.fresh k4 (fun j hj e => by omega)
 rcases hR4.next (P := Tryz.prog) with ⟨hnil, hnx⟩ | ⟨j, q, w5, hj, hnx, hent, hR5, k5⟩
 ·have htodo : todo = [] := by
   cases todo with
   | nil => rfl
   | cons x t => simp [amap] at hnil
  subst htodo
  refine ⟨false, [], w4, hnx, .of_k0 (.refl _ _), bsp_intro (fun h => by cases h) (fun _ => ⟨?_, kw4⟩)⟩
  unfold eqEs
  rw [hall, decide_eq_true hle]; rfl
 ·have hj' : ((todo.map fun p => (p.1, enV p.2)))[j]? = some q := hj
  rw [List.getElem?_map, Option.map_eq_some_iff] at hj'
  obtain ⟨q, hqj, rfl⟩ := hj'
  have hqt := List.mem_of_getElem? hqj
  have hmem : q ∈ l1 := hsub.subset hqt
  obtain ⟨oq, okq⟩ := o1 q.1 q.2 hmem
  have her : (amap enV todo).eraseIdx j = amap enV (todo.eraseIdx j) := by unfold amap; rw [map_erase']
  rw [her] at hR5
  have hjl := (List.getElem?_eq_some_iff.1 hqj).1
  have helen : (todo.eraseIdx j).length = todo.length - 1 := List.length_eraseIdx_of_lt hjl
  have hl4 := hR4.left
  have hlam : (amap enV todo).length = todo.length := by simp [amap]
  have hlam5 : (amap enV (todo.eraseIdx j)).length = todo.length - 1 := by simp [amap, helen]
  have kw5 : K0 w w5 := kw4.fresh k5 (fun j hj e => by omega)
  have hall2 : todo.all (okE39 l2) = (okE39 l2 q && (todo.eraseIdx j).all (okE39 l2)) := by
   have := (erase_perm39 todo j q hqj).all_eq (f := okE39 l2)
   rw [this]; rfl
  have hfalse : okE39 l2 q = false -> eqEs l1 l2 = false := fun h => by
   unfold eqEs
   rw [hall, hall2, h]; simp
  have hent : EntP Tryz.prog (.pointer (some ⟨r, 0, none⟩)) (.tuple #[.agg (arrI .u8 q.2.s.id 32 0 ++ ([.string q.2.s.g] : List Value)).toArray, enV q.2]) w5 := by
   have hk : kyV q.1 = .agg (arrI .u8 q.2.s.id 32 0 ++ ([.string q.2.s.g] : List Value)).toArray := by rw [okq]; rfl
   rw [<- hk]; exact hent
  have hlk : ∀ W, K0 w W -> LookP Tryz.prog 96 (.map (some b2)) (.agg (arrI .u8 q.2.s.id 32 0 ++ ([.string q.2.s.g] : List Value)).toArray) true (.tuple #[enV ((aget l2 q.1).getD enz), .bool (aget l2 q.1).isSome]) W := fun W k => by
   obtain ⟨kl, hkl⟩ := kyKey (k := (idI q.2.s.id, q.2.s.g)) (idI_len q.2.s.id) (idI_bd oq.s.id) oq.s.g
   have := MapB.look kyV_inj (h2.kp k (fun h => h)) kyKeyed Tryz.underlying96 (zeroEn W) hkl true
   have e : q.1 = (idI q.2.s.id, q.2.s.g) := okq
   rw [aget_amap, <- e] at this
   cases hgt : aget l2 q.1 with
   | none => rw [hgt] at this; rw [e] at this; exact this
   | some x => rw [hgt] at this; rw [e] at this; exact this
  refine ⟨true, _, w5, hnx, .of_kp k5 (fun y hy => by cases hy), bsp_intro (fun _ => ?_) (fun h => by cases h)⟩
  refine ⟨q.2.s.id, q.2.s.g, q.2.s.id, q.2.s.g, q.2.s.tx, q.2.s.r, q.2.s.st, q.2.s.mo, q.2.s.de, q.2.s.rs, q.2.le, q.2.ho, q.2.si, hent, fun n5 n6 => ?_⟩
  cases hg2 : aget l2 q.1 with
  | none =>
   have hok : okE39 l2 q = false := by unfold okE39; rw [hg2]; exact decide_eq_false (fun h => by cases h)
   refine ⟨_, _, _, _, _, _, _, _, _, _, _, false, fun W hW => by have := hlk W (kw5.trans (hW.kk rfl)); rw [hg2] at this; exact this, fun n7 => ⟨false, gimp_intro (fun h => by cases h), bsp_intro (fun _ W hW => ⟨by rw [hfalse hok], kw5.trans (hW.kk rfl)⟩) (fun h => by cases h)⟩⟩
  | some y =>
   have oy := (o2 q.1 y (aget_mem hg2)).1
   have hok : okE39 l2 q = decide (y = q.2) := by
    unfold okE39
    rw [hg2, Bool.eq_iff_iff, decide_eq_true_eq, decide_eq_true_eq]
    exact ⟨fun h => by cases h; rfl, fun h => by rw [h]⟩
   refine ⟨y.s.id, y.s.g, y.s.tx, y.s.r, y.s.st, y.s.mo, y.s.de, y.s.rs, y.le, y.ho, y.si, true, fun W hW => by have := hlk W (kw5.trans (hW.kk rfl)); rw [hg2] at this; exact this, fun n7 => ⟨_, gimp_intro fun _ => enEq oq oy, bsp_intro (fun hn W hW => ?_) (fun he W hW => ?_)⟩⟩
   ·have hn : ¬ q.2 = y := by simpa using hn
    exact ⟨by rw [hfalse (by rw [hok]; exact decide_eq_false fun e => hn e.symm)], kw5.trans (hW.kk rfl)⟩
   ·have he : q.2 = y := by simpa using he
    have kW : K0 w5 W := hW.kk rfl
    have hR8 := hR5.kp kW (fun h => h) (fun h => h)
    refine ⟨⟨todo.eraseIdx j, rfl, hR8, (List.eraseIdx_sublist _ _).trans hsub, ?_, (k4.trans k5).trans (kW.mono fun _ _ h => h.elim)⟩, ?_⟩
    ·rw [hall, hall2, hok, decide_eq_true he.symm]; rfl
    ·show leftN W r b1 < leftN w4 r b1
     rw [hl4, hlam, hR8.left, hlam5]; omega
set_option maxRecDepth 100000 in
set_option maxHeartbeats 4000000 in
theorem meqf_any {w : World} {b1 b2 : Nat} {l1 l2 : List (ByteArray × MX)} (h1 : MapB Tryz.prog 9 Value.string w b1 (amap mxV l1)) (h2 : MapB Tryz.prog 9 Value.string w b2 (amap mxV l2)) (r1 : ∀ g x, aget l1 g = some x -> RowA auC 16 w x.p x.l) (r2 : ∀ g x, aget l2 g = some x -> RowA auC 16 w x.p x.l)
  (o1 : ∀ g x, aget l1 g = some x -> g.size <= 1073741824 /\ x.OK) (o2 : ∀ g x, aget l2 g = some x -> x.OK) :
  Calls Tryz.prog 85 #[.map (some b1), .map (some b2), .func (.func 51) #[] #[]] w fun e w' => e = .returned (.bool (eqMs l1 l2)) /\ K0 w w' := by
 have e1 : (amap mxV l1).length = l1.length := by simp [amap]
 have e2 : (amap mxV l2).length = l2.length := by simp [amap]
 have n1 := mapLen h1 (t := 95) Tryz.underlying95
 have n2 := mapLen h2 (t := 95) Tryz.underlying95
 rw [e1] at n1
 rw [e2] at n2
 refine vc_meqf (some b1) (some b2) 51 #[] #[] w _ ⟨_, n1, _, n2, bsp_intro (fun h => ?_) (fun h => ?_)⟩
 ·have h : ¬ l1.length = l2.length := fun e => by rw [e] at h; simp at h
  refine ⟨?_, .refl _ _⟩
  unfold eqMs
  rw [decide_eq_false h]; rfl
 have hle : l1.length = l2.length := by simp at h; omega
 have d1 : l1.Pairwise fun p q => p.1 ≠ q.1 := by have := h1.dis; unfold amap at this; rwa [List.pairwise_map] at this
 obtain ⟨r, w1, hrun, hR, k1, gr, rlt⟩ := h1.range (t := 95) Tryz.underlying95
 have hm1 := h1.lt
 have hm2 := h2.lt
 refine ⟨r, w1, hrun, .of_k0 k1, ?_⟩
 refine ⟨fun vs w' => ∃ todo : List (ByteArray × MX), vs = [] /\ RngB Value.string w' r b1 (amap mxV todo) /\ todo.Sublist l1 /\ l1.all (okM39 l2) = todo.all (okM39 l2) /\ Kp (· = r) w1 w',
  fun _ w' => leftN w' r b1, ⟨l1, rfl, hR, .refl _, rfl, .refl _ _⟩, ?_⟩
 rintro w4 ⟨todo, _, hR4, hsub, hall, k4⟩
 have kw4 : K0 w w4 := k1.fresh k4 (fun j hj e => by omega)
 rcases hR4.next (P := Tryz.prog) with ⟨hnil, hnx⟩ | ⟨j, q, w5, hj, hnx, hent, hR5, k5⟩
 ·have htodo : todo = [] := by
   cases todo with
   | nil => rfl
   | cons x t => simp [amap] at hnil
  subst htodo
  refine ⟨false, [], w4, hnx, .of_k0 (.refl _ _), bsp_intro (fun h => by cases h) (fun _ => ⟨?_, kw4⟩)⟩
  unfold eqMs
  rw [hall, decide_eq_true hle]; rfl
 ·have hj' : ((todo.map fun p => (p.1, mxV p.2)))[j]? = some q := hj
  rw [List.getElem?_map, Option.map_eq_some_iff] at hj'
  obtain ⟨q, hqj, rfl⟩ := hj'
  have hqt := List.mem_of_getElem? hqj
  have hmem : q ∈ l1 := hsub.subset hqt
  have hget : aget l1 q.1 = some q.2 := aget_at d1 hmem
  obtain ⟨hgs, oq⟩ := o1 q.1 q.2 hget
  have her : (amap mxV todo).eraseIdx j = amap mxV (todo.eraseIdx j) := by unfold amap; rw [map_erase']
  rw [her] at hR5
  have hjl := (List.getElem?_eq_some_iff.1 hqj).1
  have helen : (todo.eraseIdx j).length = todo.length - 1 := List.length_eraseIdx_of_lt hjl
  have hl4 := hR4.left
  have hlam : (amap mxV todo).length = todo.length := by simp [amap]
  have hlam5 : (amap mxV (todo.eraseIdx j)).length = todo.length - 1 := by simp [amap, helen]
  have kw5 : K0 w w5 := kw4.fresh k5 (fun j hj e => by omega)
  have hall2 : todo.all (okM39 l2) = (okM39 l2 q && (todo.eraseIdx j).all (okM39 l2)) := by
   have := (erase_perm39 todo j q hqj).all_eq (f := okM39 l2)
   rw [this]; rfl
  have hfalse : okM39 l2 q = false -> eqMs l1 l2 = false := fun h => by
   unfold eqMs
   rw [hall, hall2, h]; simp
  have hlk : LookP Tryz.prog 95 (.map (some b2)) (.string q.1) true (.tuple #[mxV ((aget l2 q.1).getD mxz), .bool (aget l2 q.1).isSome]) w5 := by
   obtain ⟨kl, hkl⟩ := stKey hgs
   have := MapB.look stInj (h2.kp kw5 (fun h => h)) stKeyed Tryz.underlying95 (zeroMs w5) hkl true
   rw [aget_amap] at this
   cases hgt : aget l2 q.1 with
   | none => rw [hgt] at this; exact this
   | some x => rw [hgt] at this; exact this
  refine ⟨true, _, w5, hnx, .of_kp k5 (fun y hy => by cases hy), bsp_intro (fun _ => ?_) (fun h => by cases h)⟩
  refine ⟨q.1, q.2.p, q.2.l.length, q.2.c, hent, ?_⟩
  cases hg2 : aget l2 q.1 with
  | none =>
   have hok : okM39 l2 q = false := by unfold okM39; rw [hg2]; exact decide_eq_false (fun ⟨y, h, _⟩ => by cases h)
   rw [hg2] at hlk
   exact ⟨none, 0, 0, false, hlk, bsp_intro (fun h => by cases h) (fun _ => ⟨.of_k0 (.refl _ _), by rw [hfalse hok], kw5⟩)⟩
  | some y =>
   rw [hg2] at hlk
   have hok : okM39 l2 q = true ↔ q.2.l = y.l := by
    unfold okM39
    rw [hg2, decide_eq_true_eq]
    exact ⟨fun ⟨z, h, e⟩ => by cases h; exact e, fun h => ⟨y, rfl, h⟩⟩
   refine ⟨y.p, y.l.length, y.c, true, hlk, bsp_intro (fun _ => ?_) (fun h => by cases h)⟩
   refine ⟨51, #[], #[], rfl, by kernel_rfl, ?_⟩
   have oy := o2 q.1 y hg2
   refine ⟨(aeqc_any q.2.l y.l q.2.p q.2.c y.p y.c w5 ((r1 q.1 q.2 hget).k0 kw5) ((r2 q.1 y hg2).k0 kw5) oq.by_ oy.by_ (by have := oq.len; omega)).mono fun e w8 ⟨he, k8⟩ => ⟨_, he, .of_k0 k8, bsp_intro (fun h => ?_) (fun h => ?_)⟩⟩
   ·have h : ¬ q.2.l = y.l := by simpa using h
    exact ⟨by rw [hfalse (by simpa using fun e => h (hok.1 e))], kw5.trans k8⟩
   ·have h : q.2.l = y.l := by simpa using h
    have hR8 := hR5.kp k8 (fun h => h) (fun h => h)
    refine ⟨⟨todo.eraseIdx j, rfl, hR8, (List.eraseIdx_sublist _ _).trans hsub, ?_, (k4.trans k5).trans (k8.mono fun _ _ h => h.elim)⟩, ?_⟩
    ·rw [hall, hall2, hok.2 h]; rfl
    ·show leftN w8 r b1 < leftN w4 r b1
     rw [hl4, hlam, hR8.left, hlam5]; omega
theorem Mq.dism {w : World} {b mb eb : Nat} {q : Qu} (h : Mq w b mb eb q) : q.ms.Pairwise fun p q => p.1 ≠ q.1 := by
 have := h.mm.dis
 unfold amap at this
 rw [List.pairwise_map] at this
 exact this
theorem qeB_iff {w : World} {b mb eb d md ed : Nat} {q r : Qu} (h1 : Mq w b mb eb q) (h2 : Mq w d md ed r) : (eqEs q.es r.es && eqMs q.ms r.ms) = true ↔ QE q r := by
 rw [Bool.and_eq_true, eqEs_iff h1.dis h2.dis, eqMs_iff h1.dism h2.dism, mpl_iff]
 exact Iff.rfl
set_option maxRecDepth 100000 in
theorem qequal_any {w : World} {b mb eb d md ed : Nat} {q r : Qu} (h1 : Mq w b mb eb q) (h2 : Mq w d md ed r) (o1 : q.OK) (o2 : r.OK) (hr : q.room = r.room) (hd : q.days = r.days) :
  Calls Tryz.prog 46 #[.pointer (some ⟨b, 0, none⟩), .pointer (some ⟨d, 0, none⟩)] w fun e w' => e = .returned (.bool (decide (QE q r))) /\ K0 w w' := by
 have hQ : decide (QE q r) = (eqEs q.es r.es && eqMs q.ms r.ms) := by rw [Bool.eq_iff_iff, decide_eq_true_eq, qeB_iff h1 h2]
 refine vc_qequal b d w _ (fun W hW => ?_)
 have kW : K0 w W := hW.kk rfl
 have a1 := h1.k0 kW
 have a2 := h2.k0 kW
 refine ⟨fun wx => K0 W wx, .refl _ _, q.room, fun wx k => (a1.k0 k).cR, r.room, fun wx k => (a2.k0 k).cR, q.days, gimp_intro fun _ wx k => (a1.k0 k).cD, r.days, gimp_intro fun _ wx k => (a2.k0 k).cD, some eb, gimp_intro fun _ wx k => (a1.k0 k).cE, some ed, gimp_intro fun _ wx k => (a2.k0 k).cE, bsp_intro (fun _ => ?_) (fun h => ?_)⟩
 ·refine ⟨(mequal_any a1.me a2.me (o1.mem a1.dis) (o2.mem a2.dis)).mono fun e w1 ⟨he, k1⟩ => ⟨_, he, k1, some mb, gimp_intro fun _ wx k => (a1.k0 k).cM, some md, gimp_intro fun _ wx k => (a2.k0 k).cM, bsp_intro (fun h => ?_) (fun h => ?_)⟩⟩
  ·have h : eqEs q.es r.es = true := by simpa using h
   have b1 := a1.k0 k1
   have b2 := a2.k0 k1
   refine ⟨(meqf_any b1.mm b2.mm b1.row b2.row (fun g x hx => ⟨by have := gnE_sz39 (o1.ms g x hx).1; omega, (o1.ms g x hx).2.1⟩) (fun g x hx => (o2.ms g x hx).2.1)).mono fun e w2 ⟨he, k2⟩ => ⟨_, he, .of_k0 (k1.trans k2), ?_, (kW.trans k1).trans k2⟩⟩
   rw [hQ, h]
  ·have h : eqEs q.es r.es = false := by simpa using h
   exact ⟨.of_k0 k1, by rw [hQ, h]; rfl, kW.trans k1⟩
 ·rw [hr, hd] at h
  simp at h
end Go.Proofs.YtfacflbmlfbeeaaGreatDoor
namespace Go.Proofs.YtfacflbmlfbeeaaGreatDoor
open Go.RowKit Go.Sort Go.Maps
set_option maxRecDepth 100000 in
set_option maxHeartbeats 4000000 in
theorem mcopy_any {w : World} {eb nb : Nat} {l : List (Ky × En)} (hE : MapB Tryz.prog 103 kyV w eb (amap enV l)) (hN : MapB Tryz.prog 103 kyV w nb (amap enV [])) (hne : nb ≠ eb) (ho : ∀ k x, (k, x) ∈ l -> x.OK /\ k = x.s.ky) :
  Calls Tryz.prog 83 #[.map (some nb), .map (some eb)] w fun e w' => e = .returned (.tuple #[]) /\ (∃ l' : List (Ky × En), MapB Tryz.prog 103 kyV w' nb (amap enV l') /\ l'.Perm l) /\ Kp (· = nb) w w' := by
 have d1 : l.Pairwise fun p q => p.1 ≠ q.1 := by have := hE.dis; unfold amap at this; rwa [List.pairwise_map] at this
 obtain ⟨r, w1, hrun, hR, k1, gr, rlt⟩ := hE.range (t := 96) Tryz.underlying96
 have hm1 := hE.lt
 have hm2 := hN.lt
 refine vc_mcopy (some nb) (some eb) w _ ⟨r, w1, hrun, .of_k0 k1, ?_⟩
 refine ⟨fun vs w' => ∃ todo lc : List (Ky × En), vs = [] /\ RngB kyV w' r eb (amap enV todo) /\ MapB Tryz.prog 103 kyV w' nb (amap enV lc) /\ (lc ++ todo).Perm l /\ Kp (fun k => k = r \/ k = nb) w1 w',
  fun _ w' => leftN w' r eb, ⟨l, [], rfl, hR, hN.kp k1 (fun h => h), .refl _, .refl _ _⟩, ?_⟩
 rintro w4 ⟨todo, lc, _, hR4, hN4, hp4, k4⟩
 have k14 : Kp (· = nb) w w4 := (k1.mono (fun _ _ h => h.elim) : Kp (· = nb) w w1).fresh k4 (fun i hi e => e.resolve_left (by omega))
 rcases hR4.next (P := Tryz.prog) with ⟨hnil, hnx⟩ | ⟨j, q, w5, hj, hnx, hent, hR5, k5⟩
 ·have htodo : todo = [] := by
   cases todo with
   | nil => rfl
   | cons x t => simp [amap] at hnil
  subst htodo
  exact ⟨false, [], w4, hnx, .of_k0 (.refl _ _), bsp_intro (fun h => by cases h) (fun _ => ⟨rfl, ⟨lc, hN4, by simpa using hp4⟩, k14⟩)⟩
 ·have hj' : ((todo.map fun p => (p.1, enV p.2)))[j]? = some q := hj
  rw [List.getElem?_map, Option.map_eq_some_iff] at hj'
  obtain ⟨q, hqj, rfl⟩ := hj'
  have hqt := List.mem_of_getElem? hqj
  have hmem : q ∈ l := hp4.subset (List.mem_append_right _ hqt)
  obtain ⟨oq, okq⟩ := ho q.1 q.2 hmem
  have her : (amap enV todo).eraseIdx j = amap enV (todo.eraseIdx j) := by unfold amap; rw [map_erase']
  rw [her] at hR5
  have hjl := (List.getElem?_eq_some_iff.1 hqj).1
  have helen : (todo.eraseIdx j).length = todo.length - 1 := List.length_eraseIdx_of_lt hjl
  have hl4 := hR4.left
  have hlam : (amap enV todo).length = todo.length := by simp [amap]
  have hlam5 : (amap enV (todo.eraseIdx j)).length = todo.length - 1 := by simp [amap, helen]
  have hent : EntP Tryz.prog (.pointer (some ⟨r, 0, none⟩)) (.tuple #[.agg (arrI .u8 q.2.s.id 32 0 ++ ([.string q.2.s.g] : List Value)).toArray, enV q.2]) w5 := by
   have hk : kyV q.1 = .agg (arrI .u8 q.2.s.id 32 0 ++ ([.string q.2.s.g] : List Value)).toArray := by rw [okq]; rfl
   rw [<- hk]; exact hent
  have hnr : nb ≠ r := by have := k1.size; omega
  have her2 : eb ≠ r := by have := k1.size; omega
  refine ⟨true, _, w5, hnx, .of_kp k5 (fun y hy => by cases hy), bsp_intro (fun _ => ?_) (fun h => by cases h)⟩
  refine ⟨q.2.s.id, q.2.s.g, q.2.s.id, q.2.s.g, q.2.s.tx, q.2.s.r, q.2.s.st, q.2.s.mo, q.2.s.de, q.2.s.rs, q.2.le, q.2.ho, q.2.si, hent, fun n5 n6 W hW => ?_⟩
  have kW : K0 w5 W := hW.kk rfl
  have c0 := hW.cells 0 rfl
  have c1 := hW.cells 1 rfl
  have hNW := (hN4.kp k5 hnr).kp kW (fun h => h)
  obtain ⟨kl, hkl⟩ := kyKey (k := (idI q.2.s.id, q.2.s.g)) (idI_len q.2.s.id) (idI_bd oq.s.id) oq.s.g
  obtain ⟨w6, hu, hm, k6⟩ := MapB.upd kyV_inj hNW kyKeyed Tryz.underlying96 hkl (enV q.2)
  rw [aset_amap] at hm
  have e : q.1 = (idI q.2.s.id, q.2.s.g) := okq
  have hpw := hp4.symm.pairwise d1 (fun {x y} h => fun e => h e.symm)
  rw [List.pairwise_append] at hpw
  have hnew : ∀ p ∈ lc, p.1 ≠ (idI q.2.s.id, q.2.s.g) := fun p hp => by rw [<- e]; exact hpw.2.2 p hp q hqt
  rw [aset_new hnew, <- e] at hm
  have hR6 := (hR5.kp kW (fun h => h) (fun h => h)).kp k6 (fun e => hnr e.symm) (fun e => hne e.symm)
  refine ⟨w6, hu, .of_kp k6 (fun z hz e => ?_), ⟨todo.eraseIdx j, lc ++ [(q.1, q.2)], rfl, hR6, hm, ?_, ((k4.trans (k5.mono fun _ _ h => .inl h)).trans (kW.mono fun _ _ h => h.elim)).trans (k6.mono fun _ _ h => .inr h)⟩, ?_⟩
  ·have e : z = nb := e
   subst e
   obtain ⟨es, cc, hb, _⟩ := hNW.blk
   simp only [List.mem_cons, List.not_mem_nil, or_false] at hz
   rcases hz with rfl | rfl
   ·rw [c0] at hb; cases hb
   ·rw [c1] at hb; cases hb
  ·refine List.Perm.trans ?_ hp4
   rw [List.append_assoc]
   exact List.Perm.append_left _ (erase_perm39 todo j q hqj).symm
  ·show leftN w6 r eb < leftN w4 r eb
   rw [hl4, hlam, hR6.left, hlam5]; omega
theorem mpl_snoc (l : List (ByteArray × MX)) (g : ByteArray) (x : MX) : mpl (l ++ [(g, x)]) = mpl l ++ [(g, x.l)] := by unfold mpl amap; simp
set_option maxRecDepth 100000 in
set_option maxHeartbeats 8000000 in
theorem qclone_any {w : World} {b mb eb : Nat} {q : Qu} (h : Mq w b mb eb q) (ho : q.OK) (hG : GW w) :
  Calls Tryz.prog 45 #[.pointer (some ⟨b, 0, none⟩)] w fun e w' => (∃ (b' mb' eb' : Nat) (q' : Qu), e = .returned (.pointer (some ⟨b', 0, none⟩)) /\ Mq w' b' mb' eb' q' /\ QSep w' q' /\ q'.room = q.room /\ q'.days = q.days /\ q'.wt = q.wt /\ q'.es.Perm q.es /\ (mpl q'.ms).Perm (mpl q.ms) /\ (∀ g x, aget q'.ms g = some x -> x.l.length <= x.c) /\ w.heap.size <= b' /\ w.heap.size <= mb' /\ w.heap.size <= eb') /\ K0 w w' := by
 have hmx := gw_lt hG
 refine vc_qclone b w _ ⟨q.room, q.days, q.wt, some mb, some eb, AtL_block h.st rfl, fun n W hW n1 w1 hn1 => ?_⟩
 have kW : K0 w W := hW.kk rfl
 have gn : w.heap.size <= n := hW.fresh 0 rfl rfl
 have ln : n < W.heap.size := block_lt (hW.cells 0 rfl)
 clear hW
 have k01 := kW.trans (hn1.kp (fun _ => False))
 have sW := kW.size
 have g1 : W.heap.size <= n1 := hn1.ge
 have l1 : n1 < w1.heap.size := by have := hn1.size; omega
 have hM : ∀ {C : List Value} (k : Nat), (∃ x ∈ [Blk.mk n 98 C (wrM 0)], x.m = 1 /\ x.n = k) -> k = n := fun k ⟨x, hx, _, e⟩ => by simp at hx; subst hx; exact e.symm
 refine ⟨.of_k0 (hn1.kp _), some mb, fun Wx hx => (h.k0 (hx.k0 k01)).cM, fun W2 hW2 => ?_⟩
 have k2 : K0 w W2 := hW2.k0 k01
 have kp2 : Kp (· = n) w1 W2 := hW2.kp.mono fun k _ h => hM k h
 have c2 := hW2.cells 0 rfl
 clear hW2
 have hN2 : MapB Tryz.prog 9 Value.string W2 n1 (amap mxV []) := (NewB.map hn1).kp kp2 (fun e => by omega)
 have h2 := h.k0 k2
 obtain ⟨r, w3, hrun, hR, k3, gr, rlt⟩ := h2.mm.range (t := 95) Tryz.underlying95
 have s2 := kp2.size
 have hmb := h.mm.lt
 have k03 := k2.trans k3
 refine ⟨r, w3, hrun, .of_k0 k3, ?_⟩
 refine ⟨fun vs w' => ∃ todo lc : List (ByteArray × MX), vs = [] /\ RngB Value.string w' r mb (amap mxV todo) /\ MapB Tryz.prog 9 Value.string w' n1 (amap mxV lc) /\ (mpl lc ++ mpl todo).Perm (mpl q.ms) /\ todo.Sublist q.ms /\ (∀ g x, aget lc g = some x -> RowA auC 16 w' x.p x.l /\ TyA w' x.p /\ x.l.length <= x.c) /\ Kp (fun k => k = r \/ k = n1) w3 w',
  fun _ w' => leftN w' r mb, ⟨q.ms, [], rfl, hR, hN2.kp k3 (fun h => h), .refl _, .refl _, (fun g x hx => by cases hx), .refl _ _⟩, ?_⟩
 rintro w4 ⟨todo, lc, _, hR4, hN4, hp4, hsub, hrow4, k4⟩ hL4
 have cn4 := hL4.cells 0 rfl
 clear hL4
 have k04 : K0 w w4 := k03.fresh k4 (fun i hi e => by rcases e with e | e <;> omega)
 have hrn : r ≠ n1 := by omega
 have hrn2 : n ≠ r := by omega
 rcases hR4.next (P := Tryz.prog) with ⟨hnil, hnx⟩ | ⟨j, y, w5, hj, hnx, hent, hR5, k5⟩
 ·have htodo : todo = [] := by
   cases todo with
   | nil => rfl
   | cons x t => simp [amap] at hnil
  subst htodo
  refine ⟨false, [], w4, hnx, .of_k0 (.refl _ _), bsp_intro (fun h => by cases h) (fun _ n3 w5 hn3 => ?_)⟩
  have k05 := k04.trans (hn3.kp (fun _ => False))
  have g3 : w4.heap.size <= n3 := hn3.ge
  have l3 : n3 < w5.heap.size := by have := hn3.size; omega
  refine ⟨.of_k0 (hn3.kp _), some eb, fun Wx hx => (h.k0 (hx.k0 k05)).cE, fun W6 hW6 => ?_⟩
  have k06 : K0 w W6 := hW6.k0 k05
  have kp6 : Kp (· = n) w5 W6 := hW6.kp.mono fun k _ h => hM k h
  have c6 := hW6.cells 0 rfl
  clear hW6
  have h6 := h.k0 k06
  have s4 := k04.size
  have ln4 := block_lt cn4
  simp only at ln4
  have heb := h.me.lt
  have l14 := hN4.lt
  have cn5 := (hn3.kp (fun _ => False)).blk cn4 (fun h => h)
  have hN5 := hN4.kp (hn3.kp (fun _ => False)) (fun h => h)
  have hN6 := hN5.kp kp6 (fun e => by omega)
  have hM6 : MapB Tryz.prog 103 kyV W6 n3 (amap enV []) := (NewB.map hn3).kp kp6 (fun e => by omega)
  refine ⟨(mcopy_any h6.me hM6 (by omega) (ho.mem h6.dis)).mono fun e w7 ⟨he, ⟨l', hl', hp'⟩, k7⟩ => ⟨he, .of_kp k7 (fun z hz e => by
   rcases List.mem_singleton.1 hz with rfl
   have e : z = n3 := e
   omega), ?_⟩⟩
  have k07 : K0 w w7 := k06.fresh k7 (fun i hi e => by have e : i = n3 := e; omega)
  have hne39 : ∀ k c f, w5.heap[k]? = some (.cells c 45 f) -> ¬ k = n := fun k c f hc e => by
   rw [e, cn5] at hc
   have : (98 : TypeId) = 45 := (Obj.cells.inj (Option.some.inj hc)).2.1
   exact absurd this (by decide)
  have hn3m : ∀ k c (t : TypeId) f, W6.heap[k]? = some (.cells c t f) -> ¬ k = n3 := fun k c t f hc e => by
   obtain ⟨es, cc, hb, _⟩ := hM6.blk
   rw [e, hb] at hc; cases hc
  have hrows : ∀ g x, aget lc g = some x -> RowA auC 16 w7 x.p x.l /\ TyA w7 x.p := fun g x hx => by
   obtain ⟨r1, t1, _⟩ := hrow4 g x hx
   have r5 := r1.k0 (hn3.kp _)
   have t5 := t1.k0 (hn3.kp _)
   have r6 := r5.ty t5 kp6 hne39
   have t6 := t5.kp kp6 hne39
   exact ⟨r6.ty t6 k7 (fun k c f hc => hn3m k c _ f hc), t6.kp k7 (fun k c f hc => hn3m k c _ f hc)⟩
  refine ⟨⟨n, n1, n3, ⟨q.room, q.days, q.wt, lc, l'⟩, rfl, ⟨k7.blk c6 (hn3m _ _ _ _ c6), hN6.kp k7 (fun e => by omega), hl', fun g x hx => (hrows g x hx).1, by omega, by omega⟩, fun g x hx => (hrows g x hx).2, rfl, rfl, rfl, hp', by simpa [mpl, amap] using hp4, fun g x hx => (hrow4 g x hx).2.2, gn, by omega, by omega⟩, k07⟩
 ·have hj' : ((todo.map fun p => (p.1, mxV p.2)))[j]? = some y := hj
  rw [List.getElem?_map, Option.map_eq_some_iff] at hj'
  obtain ⟨y, hyj, rfl⟩ := hj'
  have hyt := List.mem_of_getElem? hyj
  have hmem : y ∈ q.ms := hsub.subset hyt
  have hget : aget q.ms y.1 = some y.2 := aget_at h.dism hmem
  obtain ⟨hgs, oy, _⟩ := ho.ms y.1 y.2 hget
  have hgsz := gnE_sz39 hgs
  have her : (amap mxV todo).eraseIdx j = amap mxV (todo.eraseIdx j) := by unfold amap; rw [map_erase']
  rw [her] at hR5
  have hjl := (List.getElem?_eq_some_iff.1 hyj).1
  have helen : (todo.eraseIdx j).length = todo.length - 1 := List.length_eraseIdx_of_lt hjl
  have hl4 := hR4.left
  have hlam : (amap mxV todo).length = todo.length := by simp [amap]
  have hlam5 : (amap mxV (todo.eraseIdx j)).length = todo.length - 1 := by simp [amap, helen]
  have k05 : K0 w w5 := k04.fresh k5 (fun i hi e => by have e : i = r := e; omega)
  refine ⟨true, _, w5, hnx, .of_kp k5 (fun z hz e => by
   rcases List.mem_singleton.1 hz with rfl
   exact hrn2 e), bsp_intro (fun _ => ?_) (fun h => by cases h)⟩
  refine ⟨y.1, y.2.p, y.2.l.length, y.2.c, hent, fun W6 hW6 => ?_⟩
  have k6 : K0 w5 W6 := hW6.kk rfl
  have c6 := hW6.cells 0 rfl
  clear hW6
  refine ⟨fun wx => K0 W6 wx, .refl _ _, some n1, fun wx kx => cell_at (kx.blk c6 (fun h => h)) rfl, ?_⟩
  refine ⟨(aclone_any y.2.l y.2.p y.2.c W6 ((h.row y.1 y.2 hget).k0 (k05.trans k6)) (by have := oy.len; omega)).mono fun e w7 ⟨⟨p', c', he, ho7⟩, k7⟩ => ⟨_, _, _, he, k7, ?_⟩⟩
  have hN7 := (hN4.kp k5 (fun e => hrn e.symm)).kp (k6.trans k7) (fun h => h)
  obtain ⟨kl, hkl⟩ := stKey (s := y.1) (by omega)
  obtain ⟨w8, hu, hm, k8⟩ := MapB.upd stInj hN7 stKeyed Tryz.underlying95 hkl (mxV ⟨y.2.l, p', c'⟩)
  rw [aset_amap] at hm
  have hR8 := (hR5.kp (k6.trans k7) (fun h => h) (fun h => h)).kp k8 hrn (fun e => by omega)
  have c7 := k7.blk c6 (fun h => h)
  have n1m : ∀ k c (t : TypeId) f, w7.heap[k]? = some (.cells c t f) -> ¬ k = n1 := fun k c t f hc e => by
   obtain ⟨es, cc, hb, _⟩ := hN7.blk
   rw [e, hb] at hc; cases hc
  have rm : ∀ k c (t : TypeId) f, w4.heap[k]? = some (.cells c t f) -> ¬ k = r := fun k c t f hc e => by
   obtain ⟨es, cl, si, c0, se, h1, h2, _⟩ := hR4.h
   rw [e, h2] at hc; cases hc
  have hd4 : lc.Pairwise fun p q => p.1 ≠ q.1 := by have := hN4.dis; unfold amap at this; rwa [List.pairwise_map] at this
  have hdq := mpl_dis h.dism
  have hnew : ∀ p ∈ lc, p.1 ≠ y.1 := fun p hp => by
   have hpw := hp4.symm.pairwise hdq (fun {x y} h => fun e => h e.symm)
   rw [List.pairwise_append] at hpw
   exact hpw.2.2 (p.1, p.2.l) (List.mem_map.2 ⟨p, hp, rfl⟩) (y.1, y.2.l) (List.mem_map.2 ⟨y, hyt, rfl⟩)
  have hag := aset_new (v := (⟨y.2.l, p', c'⟩ : MX)) hnew
  refine ⟨w8, hu, .of_kp ((k7.mono fun _ _ h => h.elim).trans k8) (fun z hz e => ?_), ⟨todo.eraseIdx j, aset lc y.1 ⟨y.2.l, p', c'⟩, rfl, hR8, hm, ?_, (List.eraseIdx_sublist _ _).trans hsub, fun g x hx => ?_, ((k4.trans (k5.mono fun _ _ h => .inl h)).trans ((k6.trans k7).mono fun _ _ h => h.elim)).trans (k8.mono fun _ _ h => .inr h)⟩, ?_⟩
  ·rcases List.mem_singleton.1 hz with rfl
   have e : z = n1 := e
   omega
  ·rw [hag, mpl_snoc, List.append_assoc]
   refine List.Perm.trans (List.Perm.append_left _ ?_) hp4
   have := (erase_perm39 todo j y hyj).map (fun p : ByteArray × MX => (p.1, p.2.l))
   exact this.symm
  ·rw [aget_aset] at hx
   split at hx
   ·cases hx
    have r7 : RowA auC 16 w7 p' y.2.l := RowA.own ho7 auC_length (by decide)
    have t7 : TyA w7 p' := TyA.own ho7
    exact ⟨r7.ty t7 k8 (fun k c f hc => n1m k c _ f hc), t7.kp k8 (fun k c f hc => n1m k c _ f hc), own_le ho7⟩
   ·obtain ⟨r4, t4, e4⟩ := hrow4 g x hx
    have r5 := r4.ty t4 k5 (fun k c f hc => rm k c _ f hc)
    have t5 := t4.kp k5 (fun k c f hc => rm k c _ f hc)
    have r7 := r5.k0 (k6.trans k7)
    have t7 := t5.k0 (k6.trans k7)
    exact ⟨r7.ty t7 k8 (fun k c f hc => n1m k c _ f hc), t7.kp k8 (fun k c f hc => n1m k c _ f hc), e4⟩
  ·show leftN w8 r mb < leftN w4 r mb
   rw [hl4, hlam, hR8.left, hlam5]; omega
theorem Rq.clone {n : Nat} {q q' : Qu} {M : Mo} (r : Rq n q M) (hd' : q'.es.Pairwise fun p r => p.1 ≠ r.1) (hdm : q.ms.Pairwise fun p r => p.1 ≠ r.1) (hdm' : q'.ms.Pairwise fun p r => p.1 ≠ r.1) (hr : q'.room = q.room) (hd : q'.days = q.days) (hw : q'.wt = q.wt) (he : q'.es.Perm q.es) (hm : (mpl q'.ms).Perm (mpl q.ms)) (hc : ∀ g x, aget q'.ms g = some x -> x.l.length <= x.c) : Rq n q' M := by
 have hes : ∀ k, aget q'.es k = aget q.es k := perm_agG hd' r.qd he
 have hms : ∀ g, aget (mpl q'.ms) g = aget (mpl q.ms) g := perm_agG (mpl_dis hdm') (mpl_dis hdm) hm
 have hmd : ∀ g, (q'.md g).l = (q.md g).l := fun g => (mpl_iff.1 hms g).2
 exact {
  qo := ⟨by rw [hr]; exact r.qo.room, by rw [hd]; exact r.qo.days, by rw [hw, r.qo.wt, (he.filter _).length_eq], fun g x hx => by
   have h1 := hms g
   rw [mpl_get, mpl_get, hx] at h1
   cases hg : aget q.ms g with
   | none => rw [hg] at h1; cases h1
   | some y =>
    rw [hg] at h1
    simp only [Option.map_some, Option.some.injEq] at h1
    obtain ⟨a1, a2, a3⟩ := r.qo.ms g y hg
    exact ⟨a1, ⟨by rw [h1]; exact a2.by_, by rw [h1]; exact a2.len, hc g x hx⟩, by rw [h1]; exact a3⟩, fun k x hx => r.qo.es k x (by rw [<- hes]; exact hx)⟩
  room := by rw [hr]; exact r.room
  days := by rw [hd]; exact r.days
  qd := hd'
  dis := r.dis
  fd := fun k => by rw [hes]; exact r.fd k
  srt := r.srt
  ms := fun g => by rw [hmd]; exact r.ms g
  gs := r.gs
  gl := r.gl
  el := r.el
  le := r.le }
end Go.Proofs.YtfacflbmlfbeeaaGreatDoor
namespace Go.Proofs.YtfacflbmlfbeeaaGreatDoor
set_option maxRecDepth 100000
set_option linter.unusedVariables false
def VC_lclones (p : Option Addr) (n : Nat) (c : Nat) (k : Int) (i : Int) (g : Int) (a : Int) (now : Int) (t : ByteArray) (w : World) (R : Ending -> World -> Prop) : Prop := ∀ (n_1 : Nat) (W : World), Loc w.heap.size [Blk.mk n_1 66 [Value.int .u8 k, .int .u8 i, .int .u8 g, .int .u8 a, .int .i64 now, .string t] 2] w W -> CallsS Tryz.prog 14 #[] W fun (e : Ending) (w' : World) => ∃ (x : Bool), e = .returned (.bool x) /\ KeptL [n_1] W w' /\ bsp (!x) (R (.returned (.bool false)) w') (CallsS Tryz.prog 28 #[.slice p n c, .int .i64 20] w' fun (e : Ending) (w'_1 : World) => ∃ (x : Option Addr) (x_1 : Option Addr) (x_2 : Bool), e = .returned (.tuple #[.pointer x, .pointer x_1, .bool x_2]) /\ KeptL [n_1] w' w'_1 /\ CallsS Tryz.prog 45 #[.pointer x] w'_1 fun (e : Ending) (w' : World) => ∃ (x_3 : Option Addr), e = .returned (.pointer x_3) /\ KeptL [n_1] w'_1 w' /\ bsp (!(!x_2 || x_3.isNone))
 (CallsS Tryz.prog 46 #[.pointer x_3, .pointer x] w' fun (e : Ending) (w'_2 : World) => ∃ (x_4 : Bool), e = .returned (.bool x_4) /\ KeptL [n_1] w' w'_2 /\ bsp (!(false || !x_4)) (CallsS Tryz.prog 46 #[.pointer x, .pointer x_3] w'_2 fun (e : Ending) (w' : World) => ∃ (x_5 : Bool), e = .returned (.bool x_5) /\ KeptL [n_1] w'_2 w' /\ bsp (false || !x_5) (R (.returned (.bool false)) w') (CallsS Tryz.prog 28 #[.slice p n c, .int .i64 20] w' fun (e : Ending) (w'_3 : World) => ∃ (x_6 : Option Addr) (x_7 : Option Addr) (x_8 : Bool), e = .returned (.tuple #[.pointer x_6, .pointer x_7, .bool x_8]) /\ KeptL [n_1] w' w'_3 /\ CallsS Tryz.prog 31 #[.pointer x_3, .pointer x_7, .agg #[.int .u8 k, .int .u8 i, .int .u8 g, .int .u8 a, .int .i64 now, .string t]] w'_3 fun (e : Ending) (w' : World) => ∃ (x_9 : Bool), e = .returned (.bool x_9) /\ KeptL [n_1] w'_3 w' /\ bsp (!!x_9) (CallsS Tryz.prog 42
 #[.pointer x, .pointer x_1, .int .i64 5000] w' fun (e : Ending) (w'_4 : World) => ∃ (x_10 : Bool), e = .returned (.bool x_10) /\ KeptL [n_1] w' w'_4 /\ bsp (false || !x_10) (R (.returned (.bool false)) w'_4) (nn true x_7 fun (b o : Nat) => ∃ (p : Option Addr) (n : Nat) (c : Nat), (∀ (W : World), Loc w.heap.size [Blk.mk n_1 66 [Value.int .u8 k, .int .u8 i, .int .u8 g, .int .u8 a, .int .i64 now, .string t] 0] w'_4 W -> W.cell? (Addr.mk b (o + 3) none) = some (.slice p n c)) /\ nn true x_1 fun (b o : Nat) => ∃ (p : Option Addr) (n_2 : Nat) (c : Nat), (∀ (W : World), Loc w.heap.size [Blk.mk n_1 66 [Value.int .u8 k, .int .u8 i, .int .u8 g, .int .u8 a, .int .i64 now, .string t] 0] w'_4 W -> W.cell? (Addr.mk b (o + 3) none) = some (.slice p n_2 c)) /\ nn ((↑n : Int) == (↑n_2 : Int)) x_7 fun (b o : Nat) => ∃ (p : Option Addr) (n_3 : Nat) (c : Nat),
 gimp ((↑n : Int) == (↑n_2 : Int)) (∀ (W : World), Loc w.heap.size [Blk.mk n_1 66 [Value.int .u8 k, .int .u8 i, .int .u8 g, .int .u8 a, .int .i64 now, .string t] 0] w'_4 W -> W.cell? (Addr.mk b (o + 2) none) = some (.slice p n_3 c)) /\ nn ((↑n : Int) == (↑n_2 : Int)) x_1 fun (b o : Nat) => ∃ (p : Option Addr) (n_4 : Nat) (c : Nat), gimp ((↑n : Int) == (↑n_2 : Int)) (∀ (W : World), Loc w.heap.size [Blk.mk n_1 66 [Value.int .u8 k, .int .u8 i, .int .u8 g, .int .u8 a, .int .i64 now, .string t] 0] w'_4 W -> W.cell? (Addr.mk b (o + 2) none) = some (.slice p n_4 c)) /\ ∀ (W : World), Loc w.heap.size [Blk.mk n_1 66 [Value.int .u8 k, .int .u8 i, .int .u8 g, .int .u8 a, .int .i64 now, .string t] 0] w'_4 W -> ∃ (I : List Value -> World -> Prop) (m : List Value -> World -> Nat), I [Value.int .i64 0, .bool ((↑n : Int) == (↑n_2 : Int) && (↑n_3 : Int) == (↑n_4 : Int))] W /\
 ∀ (x_11 : Int) (x_12 : Bool) (w' : World), I [Value.int .i64 x_11, .bool x_12] w' -> Loc w.heap.size [Blk.mk n_1 66 [Value.int .u8 k, .int .u8 i, .int .u8 g, .int .u8 a, .int .i64 now, .string t] 0] w' w' -> nn true x_7 fun (b o : Nat) => ∃ (p : Option Addr) (n : Nat) (c : Nat), w'.cell? (Addr.mk b (o + 3) none) = some (.slice p n c) /\ bsp (decide (x_11 < (↑n : Int)) && x_12) (nn true x_7 fun (b o : Nat) => ∃ (p : Option Addr) (n : Nat) (c : Nat), (∀ (W : World), Loc w.heap.size [Blk.mk n_1 66 [Value.int .u8 k, .int .u8 i, .int .u8 g, .int .u8 a, .int .i64 now, .string t] 0] w' W -> W.cell? (Addr.mk b (o + 3) none) = some (.slice p n c)) /\ nn true p fun (b o : Nat) => (0 <= x_11 /\ x_11 < (↑n : Int)) /\ ∃ (f : Nat -> Int) (x : ByteArray), ∃ (x_13 : ByteArray) (x_14 : Int), ∃ (x_15 : Int) (f_1 : Nat -> Int), ∃ (x_16 : Int) (x_17 : ByteArray) (x_18 : Bool),
 ∃ (f_2 : Nat -> Int) (x_19 : Int), (∀ (W : World), Loc w.heap.size [Blk.mk n_1 66 [Value.int .u8 k, .int .u8 i, .int .u8 g, .int .u8 a, .int .i64 now, .string t] 0] w' W -> AtL W b (o + x_11.toNat * 72) (arrI .u8 f 32 0 ++ ([Value.string x, .string x_13, .int .i64 x_14, .int .i64 x_15] ++ arrI .u8 f_1 16 0 ++ ([Value.int .i64 x_16, .string x_17, .bool x_18] ++ arrI .u8 f_2 16 0 ++ [Value.int .i64 x_19])))) /\ nn true x_1 fun (b o : Nat) => ∃ (p : Option Addr) (n : Nat) (c : Nat), (∀ (W : World), Loc w.heap.size [Blk.mk n_1 66 [Value.int .u8 k, .int .u8 i, .int .u8 g, .int .u8 a, .int .i64 now, .string t] 0] w' W -> W.cell? (Addr.mk b (o + 3) none) = some (.slice p n c)) /\ nn true p fun (b o : Nat) => (0 <= x_11 /\ x_11 < (↑n : Int)) /\ ∃ (f_3 : Nat -> Int) (x_20 : ByteArray), ∃ (x_21 : ByteArray) (x_22 : Int), ∃ (x_23 : Int) (f_4 : Nat -> Int) (x_24 : Int),
 ∃ (x_25 : ByteArray) (x_26 : Bool), ∃ (f_5 : Nat -> Int) (x_27 : Int), (∀ (W : World), Loc w.heap.size [Blk.mk n_1 66 [Value.int .u8 k, .int .u8 i, .int .u8 g, .int .u8 a, .int .i64 now, .string t] 0] w' W -> AtL W b (o + x_11.toNat * 72) (arrI .u8 f_3 32 0 ++ ([Value.string x_20, .string x_21, .int .i64 x_22, .int .i64 x_23] ++ arrI .u8 f_4 16 0 ++ ([Value.int .i64 x_24, .string x_25, .bool x_26] ++ arrI .u8 f_5 16 0 ++ [Value.int .i64 x_27])))) /\ ∃ (r : Bool), EqP Tryz.prog 91 (.agg (arrI .u8 f 32 0 ++ ([Value.string x, .string x_13, .int .i64 x_14, .int .i64 x_15] ++ arrI .u8 f_1 16 0 ++ ([Value.int .i64 x_16, .string x_17, .bool x_18] ++ arrI .u8 f_2 16 0 ++ [Value.int .i64 x_19]))).toArray) (.agg (arrI .u8 f_3 32 0 ++ ([Value.string x_20, .string x_21, .int .i64 x_22, .int .i64 x_23] ++ arrI .u8 f_4 16 0 ++ ([Value.int .i64 x_24, .string x_25, .bool
 x_26] ++ arrI .u8 f_5 16 0 ++ [Value.int .i64 x_27]))).toArray) r /\ ∀ (W : World), Loc w.heap.size [Blk.mk n_1 66 [Value.int .u8 k, .int .u8 i, .int .u8 g, .int .u8 a, .int .i64 now, .string t] 0] w' W -> I [Value.int .i64 (IntKind.i64.wrap (x_11 + 1)), .bool r] W /\ m [Value.int .i64 (IntKind.i64.wrap (x_11 + 1)), .bool r] W < m [Value.int .i64 x_11, .bool x_12] w') (∃ (I : List Value -> World -> Prop) (m : List Value -> World -> Nat), I [Value.int .i64 0, .bool x_12] w' /\ ∀ (x_13 : Int) (x_14 : Bool) (w' : World), I [Value.int .i64 x_13, .bool x_14] w' -> Loc w.heap.size [Blk.mk n_1 66 [Value.int .u8 k, .int .u8 i, .int .u8 g, .int .u8 a, .int .i64 now, .string t] 0] w' w' -> nn true x_7 fun (b o : Nat) => ∃ (p : Option Addr) (n : Nat) (c : Nat), w'.cell? (Addr.mk b (o + 2) none) = some (.slice p n c) /\ bsp (decide (x_13 < (↑n : Int)) && x_14) (nn true x_7
 fun (b o : Nat) => ∃ (p : Option Addr) (n : Nat) (c : Nat), (∀ (W : World), Loc w.heap.size [Blk.mk n_1 66 [Value.int .u8 k, .int .u8 i, .int .u8 g, .int .u8 a, .int .i64 now, .string t] 0] w' W -> W.cell? (Addr.mk b (o + 2) none) = some (.slice p n c)) /\ nn true p fun (b o : Nat) => (0 <= x_13 /\ x_13 < (↑n : Int)) /\ ∃ (p : Option Addr) (n : Nat) (c : Nat), (∀ (W : World), Loc w.heap.size [Blk.mk n_1 66 [Value.int .u8 k, .int .u8 i, .int .u8 g, .int .u8 a, .int .i64 now, .string t] 0] w' W -> W.cell? (Addr.mk b (o + x_13.toNat * 2 + 1) none) = some (.slice p n c)) /\ nn true x_1 fun (b o : Nat) => ∃ (p_1 : Option Addr) (n_5 : Nat) (c : Nat), (∀ (W : World), Loc w.heap.size [Blk.mk n_1 66 [Value.int .u8 k, .int .u8 i, .int .u8 g, .int .u8 a, .int .i64 now, .string t] 0] w' W -> W.cell? (Addr.mk b (o + 2) none) = some (.slice p_1 n_5 c)) /\ nn true p_1 fun (b o :
 Nat) => (0 <= x_13 /\ x_13 < (↑n_5 : Int)) /\ ∃ (p_2 : Option Addr) (n_6 : Nat) (c : Nat), (∀ (W : World), Loc w.heap.size [Blk.mk n_1 66 [Value.int .u8 k, .int .u8 i, .int .u8 g, .int .u8 a, .int .i64 now, .string t] 0] w' W -> W.cell? (Addr.mk b (o + x_13.toNat * 2 + 1) none) = some (.slice p_2 n_6 c)) /\ ∀ (W : World), Loc w.heap.size [Blk.mk n_1 66 [Value.int .u8 k, .int .u8 i, .int .u8 g, .int .u8 a, .int .i64 now, .string t] 0] w' W -> ∃ (I_1 : List Value -> World -> Prop) (m_1 : List Value -> World -> Nat), I_1 [Value.int .i64 0, .bool ((↑n : Int) == (↑n_6 : Int))] W /\ ∀ (x : Int) (x_15 : Bool) (w'_5 : World), I_1 [Value.int .i64 x, .bool x_15] w'_5 -> Loc w.heap.size [Blk.mk n_1 66 [Value.int .u8 k, .int .u8 i, .int .u8 g, .int .u8 a, .int .i64 now, .string t] 0] w'_5 w'_5 -> bsp (decide (x < (↑n : Int)) && x_15) (nn true p fun (b o : Nat) => (0 <= x /\ x < (↑n :
 Int)) /\ ∃ (f : Nat -> Int), (∀ (W : World), Loc w.heap.size [Blk.mk n_1 66 [Value.int .u8 k, .int .u8 i, .int .u8 g, .int .u8 a, .int .i64 now, .string t] 0] w'_5 W -> AtL W b (o + x.toNat * 16) (arrI .u8 f 16 0)) /\ nn true p_2 fun (b o : Nat) => (0 <= x /\ x < (↑n_6 : Int)) /\ ∃ (f_1 : Nat -> Int), (∀ (W : World), Loc w.heap.size [Blk.mk n_1 66 [Value.int .u8 k, .int .u8 i, .int .u8 g, .int .u8 a, .int .i64 now, .string t] 0] w'_5 W -> AtL W b (o + x.toNat * 16) (arrI .u8 f_1 16 0)) /\ ∃ (r : Bool), EqP Tryz.prog 45 (.agg (arrI .u8 f 16 0).toArray) (.agg (arrI .u8 f_1 16 0).toArray) r /\ ∀ (W : World), Loc w.heap.size [Blk.mk n_1 66 [Value.int .u8 k, .int .u8 i, .int .u8 g, .int .u8 a, .int .i64 now, .string t] 0] w'_5 W -> I_1 [Value.int .i64 (IntKind.i64.wrap (x + 1)), .bool r] W /\ m_1 [Value.int .i64 (IntKind.i64.wrap (x + 1)), .bool r] W < m_1 [Value.int .i64 x, .bool x_15]
 w'_5) (I [Value.int .i64 (IntKind.i64.wrap (x_13 + 1)), .bool x_15] w'_5 /\ m [Value.int .i64 (IntKind.i64.wrap (x_13 + 1)), .bool x_15] w'_5 < m [Value.int .i64 x_13, .bool x_14] w')) (∀ (W : World), Loc w.heap.size [Blk.mk n_1 66 [Value.int .u8 k, .int .u8 i, .int .u8 g, .int .u8 a, .int .i64 now, .string t] 0] w' W -> ∃ (S : World -> Prop), S W /\ nn true x_7 fun (b o : Nat) => ∃ (p : Option Addr) (n : Nat) (c : Nat), (∀ (w' : World), S w' -> w'.cell? (Addr.mk b (o + 2) none) = some (.slice p n c)) /\ nn true x_1 fun (b o : Nat) => ∃ (p : Option Addr) (n_5 : Nat) (c : Nat), (∀ (w' : World), S w' -> w'.cell? (Addr.mk b (o + 2) none) = some (.slice p n_5 c)) /\ bsp (!(↑n : Int) != (↑n_5 : Int)) (CallsS Tryz.prog 46 #[.pointer x_3, .pointer x] W fun (e : Ending) (w' : World) => ∃ (x_15 : Bool), e = .returned (.bool x_15) /\ bsp (x_15 == x_14) (CallsS Tryz.prog 46 #[.pointer
 x, .pointer x_3] w' fun (e : Ending) (w' : World) => ∃ (x : Bool), e = .returned (.bool x) /\ KeptL [n_1] W w' /\ R (.returned (.bool (false || true && x == x_14))) w') (KeptL [n_1] W w' /\ R (.returned (.bool (false || false))) w')) (KeptL [n_1] W W /\ R (.returned (.bool true)) W))))) (KeptL [n_1] w' w' /\ R (.returned (.bool false)) w'))) (KeptL [n_1] w'_2 w'_2 /\ R (.returned (.bool false)) w'_2)) (KeptL [n_1] w' w' /\ KeptL [n_1] w' w' /\ R (.returned (.bool false)) w'))
theorem vc_lclones (p : Option Addr) (n : Nat) (c : Nat) (k : Int) (i : Int) (g : Int) (a : Int) (now : Int) (t : ByteArray) (w : World) (R : Ending -> World -> Prop) (h : VC_lclones p n c k i g a now t w R) : Calls Tryz.prog 12 ([Value.slice p n c, .agg #[.int .u8 k, .int .u8 i, .int .u8 g, .int .u8 a, .int .i64 now, .string t]] : List Value).toArray w R :=
 calls_of_exec2' (loops := [(12, [(13, Ck.int .i64), (12, Ck.bool)]), (16, [(14, Ck.int .i64), (12, Ck.bool)]), (21, [(17, Ck.int .i64), (12, Ck.bool)])]) (tails := [(24, 14)]) (joins := []) (boxes := []) (rngs := []) (c := Tryz.f12.body.getD .skip) pur1_ok Tryz.func12 (by kernel_rfl) (by kernel_rfl) h
end Go.Proofs.YtfacflbmlfbeeaaGreatDoor
namespace Go.Proofs.YtfacflbmlfbeeaaGreatDoor
open Go.RowKit Go.Sort Go.Maps Classical
theorem enLitsX {x : En} (h : x.OK) (D : Nat) : Tryz.prog.keyLits (D + 4) 91 (enC x) = some (enL x) := by
 unfold Program.keyLits
 rw [Tryz.underlying91]
 simp only
 have c0 : Tryz.prog.cellsOf 91 = 72 := by kernel_rfl
 rw [if_pos ⟨by rw [c0]; rfl, by decide +kernel⟩]
 have c1 : Tryz.prog.cellsOf 48 = 54 := by kernel_rfl
 have c2 : Tryz.prog.cellsOf 4 = 1 := by kernel_rfl
 have c3 : Tryz.prog.cellsOf 3 = 1 := by kernel_rfl
 have c4 : Tryz.prog.cellsOf 45 = 16 := by kernel_rfl
 simp only [List.mapM_cons, List.mapM_nil, c1, c2, c3, c4]
 have e1 : ((enC x).drop 0).take 54 = sbC x.s := rfl
 have e2 : ((enC x).drop 54).take 1 = [.bool x.le] := rfl
 have e3 : ((enC x).drop 55).take 16 = (auI x.ho).map (Value.int .u8) := rfl
 have e4 : ((enC x).drop 71).take 1 = [.int .i64 x.si] := rfl
 rw [e1, e2, e3, e4, sbLits h.s, lits_bool, lits_au (auI_len x.ho) (auI_bd h.ho), lits_int h.si64]
 simp [enL, leL]
theorem enKeyX {x : En} (h : x.OK) : keyOf Tryz.prog 91 (enV x) = some (.string (keyBytes (enL x))) := by
 unfold keyOf
 rw [Tryz.underlying91]
 simp only
 have h1 : Tryz.prog.keyType 91 = true := by kernel_rfl
 have hf' : (enV x).formed Tryz.prog 91 = true := by
  unfold Value.formed
  rw [Tryz.underlying91]
  have c0 : Tryz.prog.cellsOf 91 = 72 := by kernel_rfl
  simp only
  rw [c0]; rfl
 rw [h1, hf']
 have h2 := enLitsX h (Tryz.prog.types.size - 3)
 have hsz : 3 <= Tryz.prog.types.size := by decide +kernel
 rw [show Tryz.prog.types.size - 3 + 4 = Tryz.prog.types.size + 1 by omega] at h2
 have : (enV x).cells.toList = enC x := by simp [Value.cells]
 rw [this, h2]
 rfl
set_option maxRecDepth 100000 in
theorem enEqX {x y : En} (hx : x.OK) (hy : y.OK) : EqP Tryz.prog 91 (enV x) (enV y) (decide (x = y)) := by
 refine ⟨fun w => ?_, by kernel_rfl, _, _, rfl, rfl⟩
 have kx := enKeyX hx
 have ky := enKeyX hy
 generalize hX : enV x = X at kx ⊢
 generalize hY : enV y = Y at ky ⊢
 obtain ⟨r, hr, hi⟩ := run_equal_deep w (m := 4) (by omega) (by kernel_rfl) (by rw [Tryz.underlying91]) kx ky
 rw [hr]
 congr 1
 rw [Bool.eq_iff_iff, hi, decide_eq_true_eq]
 constructor
 ·intro h
  have h : keyBytes (enL x) = keyBytes (enL y) := by simpa using h
  exact En.pl_eq hx hy (enL_inj (keyLits_inj (enLitsX hx 0) (enLitsX hy 0) h))
 ·intro h
  rw [h]
theorem MoR.base {w : World} {B B' m : Nat} {M : Mo} {P : Pl} (h : MoR w B' m M P) (hB : B <= B') : MoR w B m M P := ⟨h.st, Nat.le_trans hB h.ge, own_base h.gw hB, own_base h.ew hB, h.ms⟩
theorem Rq.moe {n : Nat} {q q2 : Qu} {M N : Mo} (r : Rq n q M) (r2 : Rq n q2 N) (h : MoE M N) : Rq n q N :=
 { qo := r.qo, room := by rw [h.room]; exact r.room, days := by rw [h.days]; exact r.days, qd := r.qd, dis := r2.dis, fd := fun k => by rw [h.es]; exact r.fd k, srt := r2.srt, ms := fun g => by rw [h.md]; exact r.ms g, gs := r2.gs, gl := r2.gl, el := r2.el, le := r2.le }
theorem Rq.msn {n : Nat} {q : Qu} {M : Mo} (r : Rq n q M) : MsN q := fun g x hx => (r.qo.ms g x hx).2.2
theorem qe_same {n : Nat} {q r : Qu} {M : Mo} (hq : Rq n q M) (hr : Rq n r M) (hM : NmD M) : QE q r := (qe_iff hq hr hq.msn hr.msn hM hM rfl).2 ⟨rfl, fun i y z hy hz => by rw [hy] at hz; cases hz; rfl⟩
theorem QE.symm {q r : Qu} (h : QE q r) : QE r q := ⟨fun k => (h.1 k).symm, fun g => ⟨(h.2 g).1.symm, (h.2 g).2.symm⟩⟩
theorem qe_comm (q r : Qu) : decide (QE q r) = decide (QE r q) := by
 rw [Bool.eq_iff_iff, decide_eq_true_eq, decide_eq_true_eq]
 exact ⟨QE.symm, QE.symm⟩
theorem MoE.nm {M N : Mo} (h : MoE M N) : nmL N = nmL M := by
 have := congrArg (List.map Prod.fst) h.gs
 rw [List.map_map, List.map_map] at this
 exact this
theorem MoE.gsl {M N : Mo} (h : MoE M N) : N.gs.length = M.gs.length := by
 have := congrArg List.length h.gs
 simpa using this
theorem take_eq_succ {α : Type} {l m : List α} {i : Nat} {x y : α} (hx : l[i]? = some x) (hy : m[i]? = some y) (h : l.take i = m.take i) : l.take (i + 1) = m.take (i + 1) ↔ x = y := by
 rw [take_snoc hx, take_snoc hy, h]
 constructor
 ·intro e
  have := List.append_cancel_left e
  simpa using this
 ·intro e; rw [e]
theorem eq_of_take {α : Type} {l m : List α} {i : Nat} (hl : l.length <= i) (hm : l.length = m.length) : l.take i = m.take i ↔ l = m := by
 rw [List.take_of_length_le hl, List.take_of_length_le (by omega)]
def gl39 (M : Mo) : List (List (Nat -> Int)) := M.gs.map fun y => y.x.l
theorem gl39_iff {M N : Mo} (hl : M.gs.length = N.gs.length) : gl39 M = gl39 N ↔ ∀ (i : Nat) (y z : Gx), M.gs[i]? = some y -> N.gs[i]? = some z -> y.x.l = z.x.l := by
 unfold gl39
 constructor
 ·intro h i y z hy hz
  have := congrArg (fun l : List (List (Nat -> Int)) => l[i]?) h
  simp only [List.getElem?_map, hy, hz, Option.map_some, Option.some.injEq] at this
  exact this
 ·intro h
  apply List.ext_getElem?
  intro i
  rw [List.getElem?_map, List.getElem?_map]
  rcases Nat.lt_or_ge i M.gs.length with hi | hi
  ·have hy := List.getElem?_eq_getElem hi
   have hz := List.getElem?_eq_getElem (show i < N.gs.length by omega)
   rw [hy, hz]
   simp only [Option.map_some, h i _ _ hy hz]
  ·rw [List.getElem?_eq_none hi, List.getElem?_eq_none (by omega)]
set_option maxRecDepth 100000 in
set_option maxHeartbeats 32000000 in
theorem lclones_any (p : Option Addr) (L : List OpZ) (c : Nat) (x : OpZ) (ox : x.R) (w : World) (hR : RowA opC39 6 w p L) (hL : ∀ x ∈ L, x.R) (hl : L.length <= 4611686018427387904) (hG : GW w) :
  Calls Tryz.prog 12 #[.slice p L.length c, .agg (opC39 x).toArray] w fun e w' => e = .returned (.bool true) /\ K0 w w' := by
 refine vc_lclones p L.length c x.k x.i x.g x.a x.now x.t w _ (fun n W hW => ?_)
 have kW : K0 w W := hW.kk rfl
 have cnW := hW.cells 0 rfl
 clear hW
 refine ⟨(known_any W (hG.kp kW (fun h => h))).mono fun e w1 ⟨he, k1⟩ => ⟨_, he, .of_k0 k1, bsp_intro (fun h => by cases h) (fun _ => ?_)⟩⟩
 have k01 := kW.trans k1
 have hG1 : GW w1 := hG.kp k01 (fun h => h)
 refine ⟨(lplay_any p L c 20 w1 (hR.k0 k01) hL hl (by decide) hG1).mono fun e w2 ⟨b, mb, eb, m, j, q, M, P, he, h2, hjm⟩ => ⟨_, _, _, he, .of_k0 h2.sw.k, ?_⟩⟩
 have hj : j <= 20 := by omega
 have hG2 : GW w2 := h2.sw.gw hG1
 have k02 := k01.trans h2.sw.k
 have om := h2.rq.mo (by omega)
 refine ⟨(qclone_any h2.sw.mq h2.rq.qo hG2).mono fun e w3 ⟨⟨b', mb', eb', q', he, hc3, hs3, er, ed, ew, ees, ems, ecp, gb', gm', ge'⟩, k3⟩ => ⟨_, he, .of_k0 k3, bsp_intro (fun _ => ?_) (fun h => by cases h)⟩⟩
 have rc := h2.rq.clone hc3.dis h2.sw.mq.dism hc3.dism er ed ew ees ems ecp
 have hq3 := h2.sw.mq.k0 k3
 refine ⟨(qequal_any hc3 hq3 rc.qo h2.rq.qo er ed).mono fun e w4 ⟨he, k4⟩ => ⟨_, he, .of_k0 k4, ?_⟩⟩
 rw [decide_eq_true (qe_same rc h2.rq h2.nm)]
 refine bsp_intro (fun _ => ?_) (fun h => by cases h)
 refine ⟨(qequal_any (hq3.k0 k4) (hc3.k0 k4) h2.rq.qo rc.qo er.symm ed.symm).mono fun e w5 ⟨he, k5⟩ => ⟨_, he, .of_k0 k5, ?_⟩⟩
 rw [decide_eq_true (qe_same h2.rq rc h2.nm)]
 refine bsp_intro (fun h => by cases h) (fun _ => ?_)
 have k25 := (k3.trans k4).trans k5
 have k05 := k02.trans k25
 have hG5 : GW w5 := hG.kp k05 (fun h => h)
 refine ⟨(lplay_any p L c 20 w5 (hR.k0 k05) hL hl (by decide) hG5).mono fun e w6 ⟨b2, mb2, eb2, m2, j2, q2, M2, P2, he, h6, hjm2⟩ => ⟨_, _, _, he, .of_k0 h6.sw.k, ?_⟩⟩
 obtain rfl : j2 = j := by omega
 have hME : MoE M M2 := h2.ch.det h6.ch
 have k26 := k25.trans h6.sw.k
 have k36 := ((k4.trans k5).trans h6.sw.k)
 have hS6 : SW w2 w6 b' mb' eb' m2 q' M2 P2 := ⟨hc3.k0 k36, hs3.k0 k36, h6.sw.mr.base k25.size, k26, gb', gm', ge'⟩
 have r6 := rc.moe h6.rq hME
 refine ⟨(ldo_any hS6 r6 (by omega) hG2 x.k x.i x.g x.a x.now x.t ox.k.1 ox.i ox.g ox.a).mono fun e w7 ⟨he, q7, M', P', h7, r7, hstp, kd7⟩ => ⟨_, he, kd7.kept (fun z hz => ?_), bsp_intro (fun _ => ?_) (fun h => by cases h)⟩⟩
 ·rcases List.mem_singleton.1 hz with rfl
  exact ⟨_, _, _, (k1.trans (h2.sw.k.trans k26)).blk cnW (fun h => h), rfl⟩
 have k27 := h7.k
 have hO7 := h2.sw.k0 k27
 refine ⟨(lstate_any hO7 h2.rq (by omega) h2.ch.idz hG1 5000).mono fun e w8 ⟨he, k8⟩ => ⟨_, he, .of_k0 k8, bsp_intro (fun h => by cases h) (fun _ => ?_)⟩⟩
 have hN := h7.k0 k8
 have hO := hO7.k0 k8
 have K8 := k02.trans (k27.trans k8)
 have st' := h6.st.step r6.dis hstp
 have om' := r7.mo (by omega)
 have hel := h2.rq.el
 have hgl := h2.rq.gl
 have hel' := r7.el
 have hgl' := r7.gl
 have hnm' := h6.nm.step hstp
 have eRoom : q7.room = q.room := by rw [<- r7.room, <- h2.rq.room, st'.room, h2.st.room]
 have eDays : q7.days = q.days := by rw [<- r7.days, <- h2.rq.days, st'.days, h2.st.days]
 clear hS6 h7 hO7 he k36 kd7 hq3 hc3
 refine nn_is rfl ⟨_, _, _, fun Wx hx => (hN.k0 (hx.kk rfl)).mr.cE, nn_is rfl ⟨_, _, _, fun Wx hx => (hO.k0 (hx.kk rfl)).mr.cE, nn_is rfl ⟨_, _, _, gimp_intro fun _ Wx hx => (hN.k0 (hx.kk rfl)).mr.cG, nn_is rfl ⟨_, _, _, gimp_intro fun _ Wx hx => (hO.k0 (hx.kk rfl)).mr.cG, fun W9 hW9 => ?_⟩⟩⟩⟩
 have k9 : K0 w8 W9 := hW9.kk rfl
 clear hW9
 refine ⟨fun vs wx => ∃ i : Nat, vs = [.int .i64 (i : Int), .bool (decide ((M'.es.length = M.es.length /\ M'.gs.length = M.gs.length) /\ M'.es.take i = M.es.take i))] /\ i <= M'.es.length /\ K0 w8 wx, fun vs _ => (match vs with | .int _ a :: _ => M'.es.length - a.toNat | _ => 0), ⟨0, ?_, by omega, k9⟩, ?_⟩
 ·have : (((M'.es.length : Nat) : Int) == ((M.es.length : Nat) : Int) && ((M'.gs.length : Nat) : Int) == ((M.gs.length : Nat) : Int)) = decide ((M'.es.length = M.es.length /\ M'.gs.length = M.gs.length) /\ M'.es.take 0 = M.es.take 0) := by
   rw [Bool.eq_iff_iff]
   simp
   omega
  rw [this]
  rfl
 rintro x11 x12 w10 ⟨i, hv, hi, k10⟩ _
 simp only [List.cons.injEq, Value.int.injEq, Value.bool.injEq, true_and, and_true] at hv
 obtain ⟨rfl, rfl⟩ := hv
 have hN10 := hN.k0 k10
 have hO10 := hO.k0 k10
 rw [Int.toNat_natCast]
 refine nn_is rfl ⟨_, _, _, hN10.mr.cE, bsp_intro (fun hb => ?_) (fun hb => ?_)⟩
 ·simp only [Bool.and_eq_true, decide_eq_true_eq] at hb
  obtain ⟨hlt, ⟨hle, hgle⟩, htk⟩ := hb
  have hlt : i < M'.es.length := by omega
  obtain ⟨y, by_, oy, hy, hpy, haty⟩ := hN10.mr.rowE.get hlt
  obtain ⟨z, bz, oz, hz, hpz, hatz⟩ := hO10.mr.rowE.get (k := i) (by omega)
  have oky := (om'.es y (List.mem_of_getElem? hy)).1
  have okz := (om.es z (List.mem_of_getElem? hz)).1
  refine nn_is rfl ⟨_, _, _, fun Wx hx => (hN10.k0 (hx.kk rfl)).mr.cE, nn_is hpy ⟨⟨by omega, by omega⟩, y.s.id, y.s.g, y.s.tx, y.s.r, y.s.st, y.s.mo, y.s.de, y.s.rs, y.le, y.ho, y.si, fun Wx hx => haty.k0 (hx.kk rfl), nn_is rfl ⟨_, _, _, fun Wx hx => (hO10.k0 (hx.kk rfl)).mr.cE, nn_is hpz ⟨⟨by omega, by omega⟩, z.s.id, z.s.g, z.s.tx, z.s.r, z.s.st, z.s.mo, z.s.de, z.s.rs, z.le, z.ho, z.si, fun Wx hx => hatz.k0 (hx.kk rfl), _, enEqX oky okz, fun Wx hx => ?_⟩⟩⟩⟩
  rw [inc64 (by omega)]
  refine ⟨⟨i + 1, ?_, hlt, k10.trans (hx.kk rfl)⟩, by simp only [Int.toNat_natCast]; omega⟩
  have : decide (y = z) = decide ((M'.es.length = M.es.length /\ M'.gs.length = M.gs.length) /\ M'.es.take (i + 1) = M.es.take (i + 1)) := by
   rw [Bool.eq_iff_iff, decide_eq_true_eq, decide_eq_true_eq, take_eq_succ hy hz htk]
   exact ⟨fun h => ⟨⟨hle, hgle⟩, h⟩, fun h => h.2⟩
  rw [this]
 have hfin : decide ((M'.es.length = M.es.length /\ M'.gs.length = M.gs.length) /\ M'.es.take i = M.es.take i) = decide ((M'.es.length = M.es.length /\ M'.gs.length = M.gs.length) /\ M'.es = M.es) := by
  rw [Bool.eq_iff_iff, decide_eq_true_eq, decide_eq_true_eq]
  constructor
  ·rintro ⟨h1, h2⟩
   have hge : ¬ ((i : Int) < (M'.es.length : Int)) := fun hlt => by
    rw [decide_eq_true hlt, decide_eq_true (show (M'.es.length = M.es.length /\ M'.gs.length = M.gs.length) /\ M'.es.take i = M.es.take i from ⟨h1, h2⟩)] at hb
    cases hb
   exact ⟨h1, (eq_of_take (by omega) h1.1).1 h2⟩
  ·rintro ⟨h1, h2⟩
   exact ⟨h1, by rw [h2]⟩
 rw [hfin]
 clear hb hfin
 refine ⟨fun vs wx => ∃ i : Nat, vs = [.int .i64 (i : Int), .bool (decide (((M'.es.length = M.es.length /\ M'.gs.length = M.gs.length) /\ M'.es = M.es) /\ (gl39 M').take i = (gl39 M).take i))] /\ i <= M'.gs.length /\ K0 w8 wx, fun vs _ => (match vs with | .int _ a :: _ => M'.gs.length - a.toNat | _ => 0), ⟨0, ?_, by omega, k10⟩, ?_⟩
 ·have : decide ((M'.es.length = M.es.length /\ M'.gs.length = M.gs.length) /\ M'.es = M.es) = decide (((M'.es.length = M.es.length /\ M'.gs.length = M.gs.length) /\ M'.es = M.es) /\ (gl39 M').take 0 = (gl39 M).take 0) := by
   rw [Bool.eq_iff_iff, decide_eq_true_eq, decide_eq_true_eq, List.take_zero, List.take_zero]
   exact ⟨fun h => ⟨h, rfl⟩, fun h => h.1⟩
  rw [this]
  rfl
 rintro x13 x14 w11 ⟨t, hv, ht, k11⟩ _
 simp only [List.cons.injEq, Value.int.injEq, Value.bool.injEq, true_and, and_true] at hv
 obtain ⟨rfl, rfl⟩ := hv
 have hN11 := hN.k0 k11
 have hO11 := hO.k0 k11
 rw [Int.toNat_natCast]
 refine nn_is rfl ⟨_, _, _, hN11.mr.cG, bsp_intro (fun hb => ?_) (fun hb W12 hW12 => ?_)⟩
 ·simp only [Bool.and_eq_true, decide_eq_true_eq] at hb
  obtain ⟨hlt, hprev, htk⟩ := hb
  have hgle := hprev.1.2
  have hlt : t < M'.gs.length := by omega
  obtain ⟨y, by_, oy, hy, hpy, haty⟩ := hN11.mr.rowG.get hlt
  obtain ⟨z, bz, oz, hz, hpz, hatz⟩ := hO11.mr.rowG.get (k := t) (by omega)
  have hym := List.mem_of_getElem? hy
  have hzm := List.mem_of_getElem? hz
  have gy := om'.gs y hym
  have gz := om.gs z hzm
  have ry := (hN11.mr.ms y hym).1
  have rz := (hO11.mr.ms z hzm).1
  refine nn_is rfl ⟨_, _, _, fun Wx hx => (hN11.k0 (hx.kk rfl)).mr.cG, nn_is hpy ⟨⟨by omega, by omega⟩, _, _, _, fun Wx hx => (haty.k0 (hx.kk rfl)).cell (j := 1) rfl, nn_is rfl ⟨_, _, _, fun Wx hx => (hO11.k0 (hx.kk rfl)).mr.cG, nn_is hpz ⟨⟨by omega, by omega⟩, _, _, _, fun Wx hx => (hatz.k0 (hx.kk rfl)).cell (j := 1) rfl, fun W12 hW12 => ?_⟩⟩⟩⟩
  have k12 : K0 w11 W12 := hW12.kk rfl
  clear hW12
  refine ⟨fun vs wx => ∃ u : Nat, vs = [.int .i64 (u : Int), .bool (decide (y.x.l.length = z.x.l.length /\ y.x.l.take u = z.x.l.take u))] /\ u <= y.x.l.length /\ K0 w11 wx, fun vs _ => (match vs with | .int _ a :: _ => y.x.l.length - a.toNat | _ => 0), ⟨0, ?_, by omega, k12⟩, ?_⟩
  ·have : (((y.x.l.length : Nat) : Int) == ((z.x.l.length : Nat) : Int)) = decide (y.x.l.length = z.x.l.length /\ y.x.l.take 0 = z.x.l.take 0) := by
    rw [Bool.eq_iff_iff]
    simp
    omega
   rw [this]
   rfl
  rintro x16 x17 w13 ⟨u, hv, hu, k13⟩ _
  simp only [List.cons.injEq, Value.int.injEq, Value.bool.injEq, true_and, and_true] at hv
  obtain ⟨rfl, rfl⟩ := hv
  rw [Int.toNat_natCast]
  refine bsp_intro (fun hb => ?_) (fun hb => ?_)
  ·simp only [Bool.and_eq_true, decide_eq_true_eq] at hb
   obtain ⟨hlu, hll, htu⟩ := hb
   have hlu : u < y.x.l.length := by omega
   obtain ⟨f, bf, of_, hf, hpf, hatf⟩ := (ry.k0 k13).get hlu
   obtain ⟨f2, bf2, of2, hf2, hpf2, hatf2⟩ := (rz.k0 k13).get (k := u) (by omega)
   have bf1 := gy.1 f (List.mem_of_getElem? hf)
   have bf2' := gz.1 f2 (List.mem_of_getElem? hf2)
   refine nn_is hpf ⟨⟨by omega, by omega⟩, f, fun Wx hx => hatf.k0 (hx.kk rfl), nn_is hpf2 ⟨⟨by omega, by omega⟩, f2, fun Wx hx => hatf2.k0 (hx.kk rfl), _, auEq bf1.1 bf2'.1, fun Wx hx => ?_⟩⟩
   rw [inc64 (by omega)]
   refine ⟨⟨u + 1, ?_, hlu, k13.trans (hx.kk rfl)⟩, by simp only [Int.toNat_natCast]; omega⟩
   have : decide (auI f = auI f2) = decide (y.x.l.length = z.x.l.length /\ y.x.l.take (u + 1) = z.x.l.take (u + 1)) := by
    rw [Bool.eq_iff_iff, decide_eq_true_eq, decide_eq_true_eq, take_eq_succ hf hf2 htu]
    exact ⟨fun h => ⟨hll, nz_eq bf1.2 bf2'.2 h⟩, fun h => by rw [h.2]⟩
   rw [this]
  ·have hfin : decide (y.x.l.length = z.x.l.length /\ y.x.l.take u = z.x.l.take u) = decide (((M'.es.length = M.es.length /\ M'.gs.length = M.gs.length) /\ M'.es = M.es) /\ (gl39 M').take (t + 1) = (gl39 M).take (t + 1)) := by
    have hgy : (gl39 M')[t]? = some y.x.l := by unfold gl39; rw [List.getElem?_map, hy]; rfl
    have hgz : (gl39 M)[t]? = some z.x.l := by unfold gl39; rw [List.getElem?_map, hz]; rfl
    rw [Bool.eq_iff_iff, decide_eq_true_eq, decide_eq_true_eq, take_eq_succ hgy hgz htk]
    constructor
    ·rintro ⟨h1, h2⟩
     have hge : ¬ ((u : Int) < (y.x.l.length : Int)) := fun hlt => by
      rw [decide_eq_true hlt, decide_eq_true (show y.x.l.length = z.x.l.length /\ y.x.l.take u = z.x.l.take u from ⟨h1, h2⟩)] at hb
      cases hb
     exact ⟨hprev, (eq_of_take (by omega) h1).1 h2⟩
    ·rintro ⟨_, h2⟩
     rw [h2]
     exact ⟨rfl, rfl⟩
   rw [hfin, inc64 (by omega)]
   exact ⟨⟨t + 1, rfl, hlt, k11.trans k13⟩, by simp only [Int.toNat_natCast]; omega⟩
 have hfin : M'.gs.length = M.gs.length -> decide (((M'.es.length = M.es.length /\ M'.gs.length = M.gs.length) /\ M'.es = M.es) /\ (gl39 M').take t = (gl39 M).take t) = decide (QE q7 q) := fun hgs => by
  have hnl : nmL M' = nmL M := by
   rw [<- hME.nm]
   exact nm_step hstp (by rw [hgs, hME.gsl])
  have hql : Rq (2 + j2 + 1) q M := h2.rq.mono (by omega)
  rw [Bool.eq_iff_iff, decide_eq_true_eq, decide_eq_true_eq, qe_iff r7 hql r7.msn hql.msn hnm' h2.nm hnl, <- gl39_iff hgs]
  have hgll : (gl39 M').length = M'.gs.length := by unfold gl39; rw [List.length_map]
  have hgll2 : (gl39 M).length = M.gs.length := by unfold gl39; rw [List.length_map]
  constructor
  ·rintro ⟨h1, h2'⟩
   have hge : ¬ ((t : Int) < (M'.gs.length : Int)) := fun hlt => by
    rw [decide_eq_true hlt, decide_eq_true (show ((M'.es.length = M.es.length /\ M'.gs.length = M.gs.length) /\ M'.es = M.es) /\ (gl39 M').take t = (gl39 M).take t from ⟨h1, h2'⟩)] at hb
    cases hb
   exact ⟨h1.2, (eq_of_take (by omega) (by omega)).1 h2'⟩
  ·rintro ⟨h1, h2'⟩
   exact ⟨⟨⟨by rw [h1], hgs⟩, h1⟩, by rw [h2']⟩
 have k12 : K0 w11 W12 := hW12.kk rfl
 have hN12 := hN11.k0 k12
 have hO12 := hO11.k0 k12
 have K12 := K8.trans (k11.trans k12)
 clear hW12 hb
 refine ⟨fun wx => K0 W12 wx, .refl _ _, nn_is rfl ⟨_, _, _, fun wx k => (hN12.k0 k).mr.cG, nn_is rfl ⟨_, _, _, fun wx k => (hO12.k0 k).mr.cG, bsp_intro (fun hgs => ?_) (fun _ => ⟨.refl _ _, rfl, K12⟩)⟩⟩⟩
 have hgs : M'.gs.length = M.gs.length := by simp at hgs; omega
 rw [hfin hgs]
 refine ⟨(qequal_any hN12.mq hO12.mq r7.qo h2.rq.qo eRoom eDays).mono fun e w13 ⟨he, k13⟩ => ⟨_, he, bsp_intro (fun _ => ?_) (fun h => by simp at h)⟩⟩
 refine ⟨(qequal_any (hO12.mq.k0 k13) (hN12.mq.k0 k13) h2.rq.qo r7.qo eRoom.symm eDays.symm).mono fun e w14 ⟨he, k14⟩ => ⟨_, he, .of_k0 (k13.trans k14), by rw [qe_comm q q7]; simp, K12.trans (k13.trans k14)⟩⟩
end Go.Proofs.YtfacflbmlfbeeaaGreatDoor
