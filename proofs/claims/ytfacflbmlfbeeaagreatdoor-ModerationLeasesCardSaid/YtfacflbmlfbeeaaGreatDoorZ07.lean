/- The formulas of functions by the symbolic evaluator, and that each gives the call's contract. Written by a program (gen.py). No condition. -/
import Derived.Test.YtfacflbmlfbeeaaGreatDoorProg
import Derived.Test.YtfacflbmlfbeeaaGreatDoorZ02
import Derived.Test.YtfacflbmlfbeeaaGreatDoorZ04
import Derived.Test.YtfacflbmlfbeeaaGreatDoorZ03
import Derived.KernelRfl
import Derived.Test.YtfacflbmlfbeeaaGreatDoorZ06
import Derived.Test.YtfacflbmlfbeeaaGreatDoorZ05
namespace Go.Proofs.YtfacflbmlfbeeaaGreatDoor
set_option maxRecDepth 100000
set_option linter.unusedVariables false

def VC_decide (b : Nat) (i : Nat -> Int) (s : ByteArray) (a : Nat -> Int) (now : Int) (st : Int) (rs : ByteArray) (w : World) (R : Ending -> World -> Prop) : Prop := ∀ (n n_1 : Nat) (W : World), Loc w.heap.size [Blk.mk n_1 45 (arrI .u8 a 16 0) 2, Blk.mk n 32 (arrI .u8 i 32 0) 2] w W -> CallsS Tryz.prog 75 #[.pointer (some (Addr.mk b 0 none)), .string s, .agg (arrI .u8 a 16 0).toArray] W fun (e : Ending) (w' : World) => ∃ (x : Bool), e = .returned (.bool x) /\ KeptL [n_1, n] W w' /\ bsp (!x) (R (.returned (.int .i64 20)) w') (∀ (W : World), Loc w.heap.size [Blk.mk n_1 45 (arrI .u8 a 16 0) 0, Blk.mk n 32 (arrI .u8 i 32 0) 0] w' W -> ∃ (S : World -> Prop), S W /\ ∃ (x : Option Nat), (∀ (w' : World), S w' -> w'.cell? (Addr.mk b (0 + 4) none) = some (.map x)) /\ ∃ (f : Nat -> Int), (∀ (w' : World), S w' -> AtL w' n 0 (arrI .u8 f 32 0)) /\ ∃ (f_1 : Nat -> Int) (x_1 : ByteArray),
 ∃ (x_2 : ByteArray) (x_3 : Int), ∃ (x_4 : Int) (f_2 : Nat -> Int), ∃ (x_5 : Int) (x_6 : ByteArray), ∃ (x_7 : Bool) (f_3 : Nat -> Int), ∃ (x_8 : Int) (b_1 : Bool), (∀ (w' : World), S w' -> LookP Tryz.prog 96 (.map x) (.agg (arrI .u8 f 32 0 ++ [Value.string s]).toArray) true (.tuple #[.agg (arrI .u8 f_1 32 0 ++ ([Value.string x_1, .string x_2, .int .i64 x_3, .int .i64 x_4] ++ arrI .u8 f_2 16 0 ++ ([Value.int .i64 x_5, .string x_6, .bool x_7] ++ arrI .u8 f_3 16 0 ++ [Value.int .i64 x_8]))).toArray, .bool b_1]) w') /\ ∀ (n_2 : Nat) (w1 : World), NewB W (Obj.cells #[.int .u8 0, .int .u8 0, .int .u8 0, .int .u8 0, .int .u8 0, .int .u8 0, .int .u8 0, .int .u8 0, .int .u8 0, .int .u8 0, .int .u8 0, .int .u8 0, .int .u8 0, .int .u8 0, .int .u8 0, .int .u8 0, .int .u8 0, .int .u8 0, .int .u8 0, .int .u8 0, .int .u8 0, .int .u8 0, .int .u8 0, .int .u8 0,
 .int .u8 0, .int .u8 0, .int .u8 0, .int .u8 0, .int .u8 0, .int .u8 0, .int .u8 0, .int .u8 0, .string (ByteArray.mk #[]), .string (ByteArray.mk #[]), .int .i64 0, .int .i64 0, .int .u8 0, .int .u8 0, .int .u8 0, .int .u8 0, .int .u8 0, .int .u8 0, .int .u8 0, .int .u8 0, .int .u8 0, .int .u8 0, .int .u8 0, .int .u8 0, .int .u8 0, .int .u8 0, .int .u8 0, .int .u8 0, .int .i64 0, .string (ByteArray.mk #[]), .bool false, .int .u8 0, .int .u8 0, .int .u8 0, .int .u8 0, .int .u8 0, .int .u8 0, .int .u8 0, .int .u8 0, .int .u8 0, .int .u8 0, .int .u8 0, .int .u8 0, .int .u8 0, .int .u8 0, .int .u8 0, .int .u8 0, .int .i64 0] 107) n_2 w1 -> S w1 /\ WrL w1 n_2 0 72 /\ ∀ (w1_1 : World), PutB w1 n_2 0 (arrI .u8 f_1 32 0 ++ ([Value.string x_1,
 .string x_2, .int .i64 x_3, .int .i64 x_4] ++ arrI .u8 f_2 16 0 ++ ([Value.int .i64 x_5, .string x_6, .bool x_7] ++ arrI .u8 f_3 16 0 ++ [Value.int .i64 x_8]))) w1_1 -> KeptL [n_1, n] W w1_1 /\ bsp (!b_1) (R (.returned (.int .i64 8)) w1_1) (∃ (x : Int), w1_1.cell? (Addr.mk n_2 (0 + 35) none) = some (.int .i64 x) /\ bsp (x != 0) (R (.returned (.int .i64 10)) w1_1) (∃ (f : Nat -> Int) (x : ByteArray), ∃ (x_9 : ByteArray) (x_10 : Int), ∃ (x_11 : Int) (f_4 : Nat -> Int), ∃ (x_12 : Int) (x_13 : ByteArray), ∃ (x_14 : Bool) (f_5 : Nat -> Int) (x_15 : Int), AtL w1_1 n_2 0 (arrI .u8 f 32 0 ++ ([Value.string x, .string x_9, .int .i64 x_10, .int .i64 x_11] ++ arrI .u8 f_4 16 0 ++ ([Value.int .i64 x_12, .string x_13, .bool x_14] ++ arrI .u8 f_5 16 0 ++ [Value.int .i64 x_15]))) /\ CallsS Tryz.prog 77 #[.agg (arrI .u8 f 32 0 ++ ([Value.string x, .string x_9, .int .i64 x_10,
 .int .i64 x_11] ++ arrI .u8 f_4 16 0 ++ ([Value.int .i64 x_12, .string x_13, .bool x_14] ++ arrI .u8 f_5 16 0 ++ [Value.int .i64 x_15]))).toArray, .agg (arrI .u8 a 16 0).toArray, .int .i64 now] w1_1 fun (e : Ending) (w' : World) => ∃ (x : Bool), e = .returned (.bool x) /\ KeptL [n_1, n] w1_1 w' /\ bsp x (R (.returned (.int .i64 25)) w') (∃ (f : Nat -> Int) (x : ByteArray), ∃ (x_16 : ByteArray) (x_17 : Int), ∃ (x_18 : Int) (f_6 : Nat -> Int), ∃ (x_19 : Int) (x_20 : ByteArray), AtL w' n_2 0 (arrI .u8 f 32 0 ++ ([Value.string x, .string x_16, .int .i64 x_17, .int .i64 x_18] ++ arrI .u8 f_6 16 0 ++ [Value.int .i64 x_19, .string x_20])) /\ CallsS Tryz.prog 70 #[.pointer (some (Addr.mk b 0 none)), .agg (arrI .u8 f 32 0 ++ ([Value.string x, .string x_16, .int .i64 x_17, .int .i64 x_18] ++ arrI .u8 f_6 16 0 ++ [Value.int .i64 x_19, .string x_20])).toArray, .agg
 (arrI .u8 a 16 0).toArray, .int .i64 now, .int .i64 st, .string rs] w' fun (e : Ending) (w'_1 : World) => ∃ (f : Nat -> Int) (x : ByteArray), ∃ (x_21 : ByteArray) (x_22 : Int), ∃ (x_23 : Int) (f_7 : Nat -> Int), ∃ (x_24 : Int) (x_25 : ByteArray), e = .returned (.agg (arrI .u8 f 32 0 ++ ([Value.string x, .string x_21, .int .i64 x_22, .int .i64 x_23] ++ arrI .u8 f_7 16 0 ++ [Value.int .i64 x_24, .string x_25])).toArray) /\ KeptL [n_1, n] w' w'_1 /\ R (.returned (.int .i64 0)) w'_1))))
theorem vc_decide (b : Nat) (i : Nat -> Int) (s : ByteArray) (a : Nat -> Int) (now : Int) (st : Int) (rs : ByteArray) (w : World) (R : Ending -> World -> Prop) (h : VC_decide b i s a now st rs w R) : Calls Tryz.prog 50 ([Value.pointer (some { block := b, off := 0 }), .agg (arrI .u8 i 32 0).toArray, .string s, .agg (arrI .u8 a 16 0).toArray, .int .i64 now, .int .i64 st, .string rs] : List Value).toArray w R :=
 calls_of_exec2' (loops := []) (tails := [(3, 11)]) (joins := []) (boxes := []) (rngs := []) (c := Tryz.f50.body.getD .skip) pur1_ok Tryz.func50 (by kernel_rfl) (by kernel_rfl) h

def VC_finish (b : Nat) (id : Nat -> Int) (mo : Nat -> Int) (g : ByteArray) (t : ByteArray) (r : Int) (st : Int) (de : Int) (rs : ByteArray) (a : Nat -> Int) (now : Int) (sn : Int) (rn : ByteArray) (w : World) (R : Ending -> World -> Prop) : Prop := ∀ (n n_1 n_2 : Nat) (W : World), Loc w.heap.size [Blk.mk n_2 48 [Value.int .u8 0, .int .u8 0, .int .u8 0, .int .u8 0, .int .u8 0, .int .u8 0, .int .u8 0, .int .u8 0, .int .u8 0, .int .u8 0, .int .u8 0, .int .u8 0, .int .u8 0, .int .u8 0, .int .u8 0, .int .u8 0, .int .u8 0, .int .u8 0, .int .u8 0, .int .u8 0, .int .u8 0, .int .u8 0, .int .u8 0, .int .u8 0, .int .u8 0, .int .u8 0, .int .u8 0, .int .u8 0, .int .u8 0, .int .u8 0, .int .u8 0, .int .u8 0, .string (ByteArray.mk #[]), .string (ByteArray.mk #[]), .int .i64 0, .int .i64 0, .int .u8 0, .int .u8 0, .int .u8 0, .int .u8 0, .int .u8 0, .int .u8 0, .int .u8 0,
 .int .u8 0, .int .u8 0, .int .u8 0, .int .u8 0, .int .u8 0, .int .u8 0, .int .u8 0, .int .u8 0, .int .u8 0, .int .i64 0, .string (ByteArray.mk #[])] 2, Blk.mk n_1 45 (arrI .u8 a 16 0) 2, Blk.mk n 48 (arrI .u8 id 32 0 ++ ([Value.string g, .string t, .int .i64 r, .int .i64 st] ++ arrI .u8 mo 16 0 ++ [Value.int .i64 de, .string rs])) 2] w W -> ∃ (S : World -> Prop), S W /\ ∃ (f : Nat -> Int), (∀ (w' : World), S w' -> AtL w' n_1 0 (arrI .u8 f 16 0)) /\ ((∃ (u : Value), W.cell? (Addr.mk n (0 + 35) none) = some u) /\ W.frozen? (Addr.mk n (0 + 35) none) = false) /\ ∀ (w1 : World), PutB W n (0 + 35) [Value.int .i64 sn] w1 -> S w1 /\ WrL w1 n (0 + 36) 16 /\ ∀ (w1_1 : World), PutB w1 n (0 + 36) (arrI .u8 f 16 0) w1_1 -> ((∃ (u : Value), w1_1.cell? (Addr.mk n (0 + 52) none) = some u) /\ w1_1.frozen? (Addr.mk n (0 + 52) none) = false) /\ ∀ (w1 : World),
 PutB w1_1 n (0 + 52) [Value.int .i64 now] w1 -> ((∃ (u : Value), w1.cell? (Addr.mk n (0 + 53) none) = some u) /\ w1.frozen? (Addr.mk n (0 + 53) none) = false) /\ ∀ (w1_2 : World), PutB w1 n (0 + 53) [Value.string rn] w1_2 -> KeptL [n_2, n_1] W w1_2 /\ ∃ (x : Option Nat), (∀ (W : World), Loc w.heap.size [Blk.mk n_2 48 [Value.int .u8 0, .int .u8 0, .int .u8 0, .int .u8 0, .int .u8 0, .int .u8 0, .int .u8 0, .int .u8 0, .int .u8 0, .int .u8 0, .int .u8 0, .int .u8 0, .int .u8 0, .int .u8 0, .int .u8 0, .int .u8 0, .int .u8 0, .int .u8 0, .int .u8 0, .int .u8 0, .int .u8 0, .int .u8 0, .int .u8 0, .int .u8 0, .int .u8 0, .int .u8 0, .int .u8 0, .int .u8 0, .int .u8 0, .int .u8 0, .int .u8 0, .int .u8 0, .string (ByteArray.mk #[]), .string (ByteArray.mk #[]), .int .i64 0, .int .i64 0, .int .u8 0, .int .u8 0, .int .u8 0, .int .u8 0, .int .u8 0, .int .u8 0, .int .u8 0, .int .u8 0, .int .u8 0,
 .int .u8 0, .int .u8 0, .int .u8 0, .int .u8 0, .int .u8 0, .int .u8 0, .int .u8 0, .int .i64 0, .string (ByteArray.mk #[])] 0, Blk.mk n_1 45 (arrI .u8 a 16 0) 0] w1_2 W -> W.cell? (Addr.mk b (0 + 4) none) = some (.map x)) /\ ∃ (f : Nat -> Int), (∀ (W : World), Loc w.heap.size [Blk.mk n_2 48 [Value.int .u8 0, .int .u8 0, .int .u8 0, .int .u8 0, .int .u8 0, .int .u8 0, .int .u8 0, .int .u8 0, .int .u8 0, .int .u8 0, .int .u8 0, .int .u8 0, .int .u8 0, .int .u8 0, .int .u8 0, .int .u8 0, .int .u8 0, .int .u8 0, .int .u8 0, .int .u8 0, .int .u8 0, .int .u8 0, .int .u8 0, .int .u8 0, .int .u8 0, .int .u8 0, .int .u8 0, .int .u8 0, .int .u8 0, .int .u8 0, .int .u8 0, .int .u8 0, .string (ByteArray.mk #[]), .string (ByteArray.mk #[]), .int .i64 0, .int .i64 0, .int .u8 0, .int .u8 0, .int .u8 0, .int .u8 0, .int .u8 0, .int .u8 0, .int .u8 0, .int .u8 0, .int .u8 0,
 .int .u8 0, .int .u8 0, .int .u8 0, .int .u8 0, .int .u8 0, .int .u8 0, .int .u8 0, .int .i64 0, .string (ByteArray.mk #[])] 0, Blk.mk n_1 45 (arrI .u8 a 16 0) 0] w1_2 W -> AtL W n 0 (arrI .u8 f 32 0)) /\ ∃ (x_1 : ByteArray), (∀ (W : World), Loc w.heap.size [Blk.mk n_2 48 [Value.int .u8 0, .int .u8 0, .int .u8 0, .int .u8 0, .int .u8 0, .int .u8 0, .int .u8 0, .int .u8 0, .int .u8 0, .int .u8 0, .int .u8 0, .int .u8 0, .int .u8 0, .int .u8 0, .int .u8 0, .int .u8 0, .int .u8 0, .int .u8 0, .int .u8 0, .int .u8 0, .int .u8 0, .int .u8 0, .int .u8 0, .int .u8 0, .int .u8 0, .int .u8 0, .int .u8 0, .int .u8 0, .int .u8 0, .int .u8 0, .int .u8 0, .int .u8 0, .string (ByteArray.mk #[]), .string (ByteArray.mk #[]), .int .i64 0, .int .i64 0, .int .u8 0, .int .u8 0, .int .u8 0, .int .u8 0, .int .u8 0, .int .u8 0, .int .u8 0, .int .u8 0, .int .u8 0, .int .u8 0, .int .u8 0, .int .u8 0,
 .int .u8 0, .int .u8 0, .int .u8 0, .int .u8 0, .int .i64 0, .string (ByteArray.mk #[])] 0, Blk.mk n_1 45 (arrI .u8 a 16 0) 0] w1_2 W -> W.cell? (Addr.mk n (0 + 32) none) = some (.string x_1)) /\ ∃ (f_1 : Nat -> Int) (x_2 : ByteArray), ∃ (x_3 : ByteArray) (x_4 : Int), ∃ (x_5 : Int) (f_2 : Nat -> Int), ∃ (x_6 : Int) (x_7 : ByteArray), (∀ (W : World), Loc w.heap.size [Blk.mk n_2 48 [Value.int .u8 0, .int .u8 0, .int .u8 0, .int .u8 0, .int .u8 0, .int .u8 0, .int .u8 0, .int .u8 0, .int .u8 0, .int .u8 0, .int .u8 0, .int .u8 0, .int .u8 0, .int .u8 0, .int .u8 0, .int .u8 0, .int .u8 0, .int .u8 0, .int .u8 0, .int .u8 0, .int .u8 0, .int .u8 0, .int .u8 0, .int .u8 0, .int .u8 0, .int .u8 0, .int .u8 0, .int .u8 0, .int .u8 0, .int .u8 0, .int .u8 0, .int .u8 0, .string (ByteArray.mk #[]), .string (ByteArray.mk #[]), .int .i64 0, .int .i64 0, .int .u8 0,
 .int .u8 0, .int .u8 0, .int .u8 0, .int .u8 0, .int .u8 0, .int .u8 0, .int .u8 0, .int .u8 0, .int .u8 0, .int .u8 0, .int .u8 0, .int .u8 0, .int .u8 0, .int .u8 0, .int .u8 0, .int .i64 0, .string (ByteArray.mk #[])] 0, Blk.mk n_1 45 (arrI .u8 a 16 0) 0] w1_2 W -> AtL W n 0 (arrI .u8 f_1 32 0 ++ ([Value.string x_2, .string x_3, .int .i64 x_4, .int .i64 x_5] ++ arrI .u8 f_2 16 0 ++ [Value.int .i64 x_6, .string x_7]))) /\ ∀ (W : World), Loc w.heap.size [Blk.mk n_2 48 [Value.int .u8 0, .int .u8 0, .int .u8 0, .int .u8 0, .int .u8 0, .int .u8 0, .int .u8 0, .int .u8 0, .int .u8 0, .int .u8 0, .int .u8 0, .int .u8 0, .int .u8 0, .int .u8 0, .int .u8 0, .int .u8 0, .int .u8 0, .int .u8 0, .int .u8 0, .int .u8 0, .int .u8 0, .int .u8 0, .int .u8 0, .int .u8 0, .int .u8 0, .int .u8 0, .int .u8 0, .int .u8 0, .int .u8 0, .int .u8 0, .int .u8 0, .int .u8 0,
 .string (ByteArray.mk #[]), .string (ByteArray.mk #[]), .int .i64 0, .int .i64 0, .int .u8 0, .int .u8 0, .int .u8 0, .int .u8 0, .int .u8 0, .int .u8 0, .int .u8 0, .int .u8 0, .int .u8 0, .int .u8 0, .int .u8 0, .int .u8 0, .int .u8 0, .int .u8 0, .int .u8 0, .int .u8 0, .int .i64 0, .string (ByteArray.mk #[])] 0, Blk.mk n_1 45 (arrI .u8 a 16 0) 0] w1_2 W -> ∃ (w1 : World), UpdP Tryz.prog 96 (.map x) (.agg (arrI .u8 f 32 0 ++ [Value.string x_1]).toArray) (.agg (arrI .u8 f_1 32 0 ++ ([Value.string x_2, .string x_3, .int .i64 x_4, .int .i64 x_5] ++ arrI .u8 f_2 16 0 ++ [Value.int .i64 x_6, .string x_7, .bool false, .int .u8 0, .int .u8 0, .int .u8 0, .int .u8 0, .int .u8 0, .int .u8 0, .int .u8 0, .int .u8 0, .int .u8 0, .int .u8 0, .int .u8 0, .int .u8 0, .int .u8 0, .int .u8 0, .int .u8 0, .int .u8 0, .int .i64 0])).toArray) W w1 /\ KeptL [n_2, n_1] W w1 /\ ∃ (x : Int),
 w1.cell? (Addr.mk b (0 + 2) none) = some (.int .i64 x) /\ ((∃ (u : Value), w1.cell? (Addr.mk b (0 + 2) none) = some u) /\ w1.frozen? (Addr.mk b (0 + 2) none) = false) /\ ∀ (w1_3 : World), PutB w1 b (0 + 2) [Value.int .i64 (IntKind.i64.wrap (x - 1))] w1_3 -> KeptL [n_2, n_1] w1 w1_3 /\ ∃ (f : Nat -> Int) (x : ByteArray), ∃ (x_8 : ByteArray) (x_9 : Int), ∃ (x_10 : Int) (f_3 : Nat -> Int), ∃ (x_11 : Int) (x_12 : ByteArray), AtL w1_3 n 0 (arrI .u8 f 32 0 ++ ([Value.string x, .string x_8, .int .i64 x_9, .int .i64 x_10] ++ arrI .u8 f_3 16 0 ++ [Value.int .i64 x_11, .string x_12])) /\ ∀ (W : World), Loc w.heap.size [Blk.mk n_2 48 (arrI .u8 f 32 0 ++ ([Value.string x, .string x_8, .int .i64 x_9, .int .i64 x_10] ++ arrI .u8 f_3 16 0 ++ [Value.int .i64 x_11, .string x_12])) (wrM 0), Blk.mk n_1 45 (arrI .u8 a 16 0) 0] w1_3 W -> R (.returned (.agg
 (arrI .u8 f 32 0 ++ ([Value.string x, .string x_8, .int .i64 x_9, .int .i64 x_10] ++ arrI .u8 f_3 16 0 ++ [Value.int .i64 x_11, .string x_12])).toArray)) W
theorem vc_finish (b : Nat) (id : Nat -> Int) (mo : Nat -> Int) (g : ByteArray) (t : ByteArray) (r : Int) (st : Int) (de : Int) (rs : ByteArray) (a : Nat -> Int) (now : Int) (sn : Int) (rn : ByteArray) (w : World) (R : Ending -> World -> Prop) (h : VC_finish b id mo g t r st de rs a now sn rn w R) : Calls Tryz.prog 70 ([Value.pointer (some { block := b, off := 0 }), .agg (arrI .u8 id 32 0 ++ ([Value.string g, .string t, .int .i64 r, .int .i64 st] ++ (arrI .u8 mo 16 0 ++ [Value.int .i64 de, .string rs]))).toArray, .agg (arrI .u8 a 16 0).toArray, .int .i64 now, .int .i64 sn, .string rn] : List Value).toArray w R :=
 calls_of_exec2' (loops := []) (tails := [(1, 5), (2, 11)]) (joins := []) (boxes := []) (rngs := []) (c := Tryz.f70.body.getD .skip) pur1_ok Tryz.func70 (by kernel_rfl) (by kernel_rfl) h

def VC_approve (b : Nat) (i : Nat -> Int) (s : ByteArray) (a : Nat -> Int) (now : Int) (w : World) (R : Ending -> World -> Prop) : Prop := ∀ (n n_1 n_2 : Nat) (W : World), Loc w.heap.size [Blk.mk n_2 42 [Value.int .i64 0, .int .u8 0, .int .u8 0, .int .u8 0, .int .u8 0, .int .u8 0, .int .u8 0, .int .u8 0, .int .u8 0, .int .u8 0, .int .u8 0, .int .u8 0, .int .u8 0, .int .u8 0, .int .u8 0, .int .u8 0, .int .u8 0, .int .u8 0, .int .u8 0, .int .u8 0, .int .u8 0, .int .u8 0, .int .u8 0, .int .u8 0, .int .u8 0, .int .u8 0, .int .u8 0, .int .u8 0, .int .u8 0, .int .u8 0, .int .u8 0, .int .u8 0, .int .u8 0, .string (ByteArray.mk #[]), .int .i64 0, .bool false, .slice none 0 0, .string (ByteArray.mk #[]), .int .i64 0, .int .i64 0, .int .u8 0, .int .u8 0, .int .u8 0, .int .u8 0, .int .u8 0, .int .u8 0, .int .u8 0, .int .u8 0, .int .u8 0, .int .u8 0, .int .u8 0, .int .u8 0,
 .int .u8 0, .int .u8 0, .int .u8 0, .int .u8 0] 2, Blk.mk n_1 45 (arrI .u8 a 16 0) 2, Blk.mk n 32 (arrI .u8 i 32 0) 2] w W -> CallsS Tryz.prog 48 #[.pointer (some (Addr.mk b 0 none)), .int .i64 now] W fun (e : Ending) (w' : World) => ∃ (x : Int), e = .returned (.int .i64 x) /\ KeptL [n_2, n_1, n] W w' /\ bsp (x != 0) (∀ (W : World), Loc w.heap.size [Blk.mk n_2 42 [Value.int .i64 0, .int .u8 0, .int .u8 0, .int .u8 0, .int .u8 0, .int .u8 0, .int .u8 0, .int .u8 0, .int .u8 0, .int .u8 0, .int .u8 0, .int .u8 0, .int .u8 0, .int .u8 0, .int .u8 0, .int .u8 0, .int .u8 0, .int .u8 0, .int .u8 0, .int .u8 0, .int .u8 0, .int .u8 0, .int .u8 0, .int .u8 0, .int .u8 0, .int .u8 0, .int .u8 0, .int .u8 0, .int .u8 0, .int .u8 0, .int .u8 0, .int .u8 0, .int .u8 0, .string (ByteArray.mk #[]), .int .i64 0, .bool false, .slice none 0 0, .string (ByteArray.mk #[]), .int .i64 0, .int .i64 0,
 .int .u8 0, .int .u8 0, .int .u8 0, .int .u8 0, .int .u8 0, .int .u8 0, .int .u8 0, .int .u8 0, .int .u8 0, .int .u8 0, .int .u8 0, .int .u8 0, .int .u8 0, .int .u8 0, .int .u8 0, .int .u8 0] (wrM 0), Blk.mk n_1 45 (arrI .u8 a 16 0) 0, Blk.mk n 32 (arrI .u8 i 32 0) 0] w' W -> R (.returned (.tuple #[.agg #[.int .i64 0, .int .u8 0, .int .u8 0, .int .u8 0, .int .u8 0, .int .u8 0, .int .u8 0, .int .u8 0, .int .u8 0, .int .u8 0, .int .u8 0, .int .u8 0, .int .u8 0, .int .u8 0, .int .u8 0, .int .u8 0, .int .u8 0, .int .u8 0, .int .u8 0, .int .u8 0, .int .u8 0, .int .u8 0, .int .u8 0, .int .u8 0, .int .u8 0, .int .u8 0, .int .u8 0, .int .u8 0, .int .u8 0, .int .u8 0, .int .u8 0, .int .u8 0, .int .u8 0, .string (ByteArray.mk #[]), .int .i64 0, .bool false, .slice none 0 0, .string (ByteArray.mk #[]), .int .i64 0, .int .i64 0, .int .u8 0, .int .u8 0, .int .u8 0, .int .u8 0,
 .int .u8 0, .int .u8 0, .int .u8 0, .int .u8 0, .int .u8 0, .int .u8 0, .int .u8 0, .int .u8 0, .int .u8 0, .int .u8 0, .int .u8 0, .int .u8 0], .int .i64 x])) W) (CallsS Tryz.prog 50 #[.pointer (some (Addr.mk b 0 none)), .agg (arrI .u8 i 32 0).toArray, .string s, .agg (arrI .u8 a 16 0).toArray, .int .i64 now, .int .i64 1, .string (ByteArray.mk #[])] w' fun (e : Ending) (w'_1 : World) => ∃ (x : Int), e = .returned (.int .i64 x) /\ KeptL [n_2, n_1, n] w' w'_1 /\ bsp (x != 0) (∀ (W : World), Loc w.heap.size [Blk.mk n_2 42 [Value.int .i64 0, .int .u8 0, .int .u8 0, .int .u8 0, .int .u8 0, .int .u8 0, .int .u8 0, .int .u8 0, .int .u8 0, .int .u8 0, .int .u8 0, .int .u8 0, .int .u8 0, .int .u8 0, .int .u8 0, .int .u8 0, .int .u8 0, .int .u8 0, .int .u8 0, .int .u8 0, .int .u8 0, .int .u8 0, .int .u8 0, .int .u8 0, .int .u8 0, .int .u8 0, .int .u8 0, .int .u8 0,
 .int .u8 0, .int .u8 0, .int .u8 0, .int .u8 0, .int .u8 0, .string (ByteArray.mk #[]), .int .i64 0, .bool false, .slice none 0 0, .string (ByteArray.mk #[]), .int .i64 0, .int .i64 0, .int .u8 0, .int .u8 0, .int .u8 0, .int .u8 0, .int .u8 0, .int .u8 0, .int .u8 0, .int .u8 0, .int .u8 0, .int .u8 0, .int .u8 0, .int .u8 0, .int .u8 0, .int .u8 0, .int .u8 0, .int .u8 0] (wrM 0), Blk.mk n_1 45 (arrI .u8 a 16 0) 0, Blk.mk n 32 (arrI .u8 i 32 0) 0] w'_1 W -> R (.returned (.tuple #[.agg #[.int .i64 0, .int .u8 0, .int .u8 0, .int .u8 0, .int .u8 0, .int .u8 0, .int .u8 0, .int .u8 0, .int .u8 0, .int .u8 0, .int .u8 0, .int .u8 0, .int .u8 0, .int .u8 0, .int .u8 0, .int .u8 0, .int .u8 0, .int .u8 0, .int .u8 0, .int .u8 0, .int .u8 0, .int .u8 0, .int .u8 0, .int .u8 0, .int .u8 0, .int .u8 0, .int .u8 0, .int .u8 0, .int .u8 0, .int .u8 0, .int .u8 0, .int .u8 0,
 .int .u8 0, .string (ByteArray.mk #[]), .int .i64 0, .bool false, .slice none 0 0, .string (ByteArray.mk #[]), .int .i64 0, .int .i64 0, .int .u8 0, .int .u8 0, .int .u8 0, .int .u8 0, .int .u8 0, .int .u8 0, .int .u8 0, .int .u8 0, .int .u8 0, .int .u8 0, .int .u8 0, .int .u8 0, .int .u8 0, .int .u8 0, .int .u8 0, .int .u8 0], .int .i64 x])) W) (∀ (W : World), Loc w.heap.size [Blk.mk n_2 42 ([Value.int .i64 2] ++ arrI .u8 i 32 0 ++ [Value.string s, .int .i64 0, .bool false, .slice none 0 0, .string (ByteArray.mk #[]), .int .i64 0, .int .i64 0, .int .u8 0, .int .u8 0, .int .u8 0, .int .u8 0, .int .u8 0, .int .u8 0, .int .u8 0, .int .u8 0, .int .u8 0, .int .u8 0, .int .u8 0, .int .u8 0, .int .u8 0, .int .u8 0, .int .u8 0, .int .u8 0]) (wrM 0), Blk.mk n_1 45 (arrI .u8 a 16 0) 0, Blk.mk n 32 (arrI .u8 i 32 0) 0] w'_1 W -> R (.returned (.tuple #[.agg
 ([Value.int .i64 2] ++ arrI .u8 i 32 0 ++ [Value.string s, .int .i64 0, .bool false, .slice none 0 0, .string (ByteArray.mk #[]), .int .i64 0, .int .i64 0, .int .u8 0, .int .u8 0, .int .u8 0, .int .u8 0, .int .u8 0, .int .u8 0, .int .u8 0, .int .u8 0, .int .u8 0, .int .u8 0, .int .u8 0, .int .u8 0, .int .u8 0, .int .u8 0, .int .u8 0, .int .u8 0]).toArray, .int .i64 0])) W))
theorem vc_approve (b : Nat) (i : Nat -> Int) (s : ByteArray) (a : Nat -> Int) (now : Int) (w : World) (R : Ending -> World -> Prop) (h : VC_approve b i s a now w R) : Calls Tryz.prog 19 ([Value.pointer (some { block := b, off := 0 }), .agg (arrI .u8 i 32 0).toArray, .string s, .agg (arrI .u8 a 16 0).toArray, .int .i64 now] : List Value).toArray w R :=
 calls_of_exec2' (loops := []) (tails := []) (joins := []) (boxes := []) (rngs := []) (c := Tryz.f19.body.getD .skip) pur1_ok Tryz.func19 (by kernel_rfl) (by kernel_rfl) h

end Go.Proofs.YtfacflbmlfbeeaaGreatDoor

/- Chapter 39: the contracts of finish, decide, Approve. The library's variable MaxLen holds a number. -/
namespace Go.Proofs.YtfacflbmlfbeeaaGreatDoor
open Go.RowKit Go.Sort Go.Maps

theorem putL_mid : ∀ (vs a b c : List Value), vs.length = b.length → putL (a ++ (b ++ c)) a.length vs = a ++ (vs ++ c)
  | [], a, b, c, h => by
    have : b = [] := List.eq_nil_of_length_eq_zero h.symm
    subst this; rfl
  | v :: r, a, [], c, h => by simp at h
  | v :: r, a, x :: b, c, h => by
    have ih := putL_mid r (a ++ [v]) b c (by simpa using h)
    simp only [putL]
    have e : (a ++ (x :: b ++ c)).set a.length v = (a ++ [v]) ++ (b ++ c) := by
      rw [List.set_append_right _ _ (Nat.le_refl _), Nat.sub_self]
      simp
    rw [e, show a.length + 1 = (a ++ [v]).length by simp, ih]
    simp
theorem put_mo {w w1 : World} {n : Nat} {x : Sb} {a : Nat → Int} {t : TypeId} (h : w.heap[n]? = some (.cells (sbC x).toArray t (0, 0))) (hp : PutB w n (0 + 36) (arrI .u8 a 16 0) w1) : w1.heap[n]? = some (.cells (sbC { x with mo := a }).toArray t (0, 0)) := by
  have h1 := hp.block h
  have e1 : (sbC x).toArray.toList = (arrI .u8 x.id 32 0 ++ ([.string x.g, .string x.tx, .int .i64 x.r, .int .i64 x.st] : List Value)) ++ (arrI .u8 x.mo 16 0 ++ ([.int .i64 x.de, .string x.rs] : List Value)) := by
    unfold sbC
    simp only [List.append_assoc]
  have e2 := putL_mid (arrI .u8 a 16 0) (arrI .u8 x.id 32 0 ++ ([.string x.g, .string x.tx, .int .i64 x.r, .int .i64 x.st] : List Value)) (arrI .u8 x.mo 16 0) ([.int .i64 x.de, .string x.rs] : List Value) rfl
  rw [e1, show 0 + 36 = (arrI .u8 x.id 32 0 ++ ([.string x.g, .string x.tx, .int .i64 x.r, .int .i64 x.st] : List Value)).length from rfl, e2] at h1
  rw [h1]
  unfold sbC
  simp only [List.append_assoc]
/-- A submission that is decided. -/
def finS39 (x : Sb) (a : Nat → Int) (now st : Int) (rs : ByteArray) : Sb := { x with st := st, mo := a, de := now, rs := rs }
def plainE (x : Sb) : En := ⟨x, false, fun _ => 0, 0⟩
def finQ (q : Qu) (x : Sb) : Qu := { q with es := aset q.es x.ky (plainE x), wt := q.wt - 1 }
set_option maxHeartbeats 2000000 in
set_option maxRecDepth 100000 in
theorem finish_any {w : World} {b mb eb : Nat} {q : Qu} (h : Mq w b mb eb q) (hwt : 1 ≤ q.wt ∧ q.wt ≤ 10000) (x : Sb) (hx : BY x.id) (hg : x.g.size ≤ 1073741824) (a : Nat → Int) (now st : Int) (rs : ByteArray) :
    Calls Tryz.prog 70 #[.pointer (some ⟨b, 0, none⟩), sbV x, .agg (arrI .u8 a 16 0).toArray, .int .i64 now, .int .i64 st, .string rs] w fun e w' => e = .returned (sbV (finS39 x a now st rs)) ∧ Mq w' b mb eb (finQ q (finS39 x a now st rs)) ∧ Kp (QB b mb eb) w w' := by
  refine vc_finish b x.id x.mo x.g x.tx x.r x.st x.de x.rs a now st rs w _ (fun n n1 n2 W hW => ?_)
  have kW : K0 w W := hW.kk rfl
  have c0 := hW.cells 0 rfl
  have c1 := hW.cells 1 rfl
  have c2 := hW.cells 2 rfl
  have g2 : w.heap.size ≤ n := hW.fresh 2 rfl rfl
  have a12 := hW.apart 1 2 rfl rfl (by decide)
  have a02 := hW.apart 0 2 rfl rfl (by decide)
  simp only at a12 a02
  refine ⟨fun wx => Kp (· = n) W wx, .refl _ _, a, fun wx k => AtL_block (k.blk c1 (fun e => a12 e)) rfl, ⟨⟨_, cell_at c2 rfl⟩, frozen_block c2 _⟩, fun w1 p1 => ⟨p1.kp, ?_⟩⟩
  have d1 : w1.heap[n]? = some (.cells (sbC { x with st := st }).toArray 48 (0, 0)) := p1.block c2
  refine ⟨WrL_block d1 (by show 0 + 36 + 16 ≤ 54; omega), fun w2 p2 => ?_⟩
  have d2 : w2.heap[n]? = some (.cells (sbC { x with st := st, mo := a }).toArray 48 (0, 0)) := put_mo d1 p2
  refine ⟨⟨⟨_, cell_at d2 rfl⟩, frozen_block d2 _⟩, fun w3 p3 => ?_⟩
  have d3 : w3.heap[n]? = some (.cells (sbC { x with st := st, mo := a, de := now }).toArray 48 (0, 0)) := p3.block d2
  refine ⟨⟨⟨_, cell_at d3 rfl⟩, frozen_block d3 _⟩, fun w4 p4 => ?_⟩
  have d4 : w4.heap[n]? = some (.cells (sbC (finS39 x a now st rs)).toArray 48 (0, 0)) := p4.block d3
  have k4 : Kp (· = n) W w4 := ((p1.kp.trans p2.kp).trans p3.kp).trans p4.kp
  have k04 : K0 w w4 := kW.fresh k4 (fun i hi e => by omega)
  have h4 := h.k0 k04
  have b0 := k4.blk c0 a02
  have b1 := k4.blk c1 a12
  generalize hX : finS39 x a now st rs = X at d4 ⊢
  have hXi : X.id = x.id := by rw [← hX]; rfl
  have hXg : X.g = x.g := by rw [← hX]; rfl
  refine ⟨.of_kp k4 (fun z hz => ?_), some eb, fun W5 hW5 => (h4.k0 (hW5.kk rfl)).cE, X.id, fun W5 hW5 => AtL_block ((hW5.kk rfl : K0 w4 W5).blk d4 (fun h => h)) rfl, X.g, fun W5 hW5 => cell_at ((hW5.kk rfl : K0 w4 W5).blk d4 (fun h => h)) rfl, X.id, X.g, X.tx, X.r, X.st, X.mo, X.de, X.rs, fun W5 hW5 => AtL_block ((hW5.kk rfl : K0 w4 W5).blk d4 (fun h => h)) rfl, fun W5 hW5 => ?_⟩
  · simp only [List.mem_cons, List.not_mem_nil, or_false] at hz
    rcases hz with rfl | rfl
    · exact a02
    · exact a12
  have k5 : K0 w4 W5 := hW5.kk rfl
  have h5 := h4.k0 k5
  have e0 := hW5.cells 0 rfl
  have e1 := hW5.cells 1 rfl
  have e4 := k5.blk d4 (fun h => h)
  obtain ⟨w6, hu, h6, k6⟩ := h5.updE (plainE X) (f := X.id) (by rw [hXi]; exact hx) (g := X.g) (by rw [hXg]; exact hg)
  have neE : ∀ {z : Nat} {c : Array Value} {t : TypeId} {f : Nat × Nat}, W5.heap[z]? = some (.cells c t f) → z ≠ eb := fun hz e => by
    obtain ⟨es, k, hb, _⟩ := h5.me.blk
    rw [e, hb] at hz; cases hz
  have f0 := k6.blk e0 (neE e0)
  have f1 := k6.blk e1 (neE e1)
  have f4 := k6.blk e4 (neE e4)
  refine ⟨w6, hu, h5.kept k6 (fun k e => .inr (.inr e)) (fun z hz => ?_), q.wt, h6.cW, h6.wrW, fun w7 p7 => ⟨h6.kept p7.kp (fun k e => .inl e) (fun z hz => ?_), X.id, X.g, X.tx, X.r, X.st, X.mo, X.de, X.rs, ?_, fun W8 hW8 => ⟨rfl, ?_⟩⟩⟩
  · simp only [List.mem_cons, List.not_mem_nil, or_false] at hz
    rcases hz with rfl | rfl
    · exact ⟨_, _, _, e0, rfl⟩
    · exact ⟨_, _, _, e1, rfl⟩
  · simp only [List.mem_cons, List.not_mem_nil, or_false] at hz
    rcases hz with rfl | rfl
    · exact ⟨_, _, _, f0, rfl⟩
    · exact ⟨_, _, _, f1, rfl⟩
  · exact AtL_block (p7.kp.blk f4 (fun e => by have hs := h6.st; have e : n = b := e; rw [e, hs] at f4; simp at f4)) rfl
  · rw [wr64 (by omega) (by omega)] at p7
    have h7 := h6.putW p7
    have k7 : Kp (QB b mb eb) w w7 := ((k04.trans k5).q0.trans (k6.qb (fun k e => .inr (.inr e)))).trans (p7.kp.qb (fun k e => .inl e))
    exact h.loc h7 rfl k7 hW8

/-! ### decide, Approve -/
def decE (q : Qu) (id : Nat → Int) (g : ByteArray) (a : Nat → Int) (now : Int) : Int :=
  if isMB (q.md g) a = false then 20 else if (aget q.es (idI id, g)).isSome = false then 8 else if (q.en (idI id, g)).s.st ≠ 0 then 10 else if blk (q.en (idI id, g)) (auI a) now = true then 25 else 0
def decQ (q : Qu) (id : Nat → Int) (g : ByteArray) (a : Nat → Int) (now st : Int) (rs : ByteArray) : Qu :=
  if decE q id g a now = 0 then finQ q (finS39 (q.en (idI id, g)).s a now st rs) else q
theorem Qu.OK.en {q : Qu} (h : q.OK) {k : Ky} (hs : (aget q.es k).isSome = true) : (q.en k).OK ∧ k = (q.en k).s.ky := by
  unfold Qu.en
  cases hgt : aget q.es k with
  | none => rw [hgt] at hs; cases hs
  | some x =>
    have := h.es k x hgt
    exact ⟨this.1, this.2.1⟩
theorem cnt_pos {l : List (Ky × En)} {P : Ky × En → Bool} {p : Ky × En} (hm : p ∈ l) (hp : P p = true) : 1 ≤ (l.filter P).length := List.length_pos_iff.2 (List.ne_nil_of_mem (List.mem_filter.2 ⟨hm, hp⟩))
set_option maxHeartbeats 2000000 in
set_option maxRecDepth 100000 in
theorem decide_any39 {w : World} {b mb eb : Nat} {q : Qu} (h : Mq w b mb eb q) (ho : q.OK) (hln : q.es.length ≤ 10000) (id : Nat → Int) (hid : BY id) (g : ByteArray) (hg : g.size ≤ 1073741824) (a : Nat → Int) (ha : BY a) (now : Int) (hn : 0 ≤ now ∧ now ≤ 105190559) (st : Int) (rs : ByteArray) :
    Calls Tryz.prog 50 #[.pointer (some ⟨b, 0, none⟩), .agg (arrI .u8 id 32 0).toArray, .string g, .agg (arrI .u8 a 16 0).toArray, .int .i64 now, .int .i64 st, .string rs] w fun e w' => e = .returned (.int .i64 (decE q id g a now)) ∧ Mq w' b mb eb (decQ q id g a now st rs) ∧ Kp (QB b mb eb) w w' := by
  refine vc_decide b id g a now st rs w _ (fun n n1 W hW => ?_)
  have kW : K0 w W := hW.kk rfl
  have c0 := hW.cells 0 rfl
  have c1 := hW.cells 1 rfl
  unfold decQ decE
  refine ⟨(ismod_any (h.k0 kW) ho g hg a ha).mono fun e w1 ⟨he, k1⟩ => ⟨_, he, .of_k0 k1, bsp_intro (fun h1 => ?_) (fun h1 W2 hW2 => ?_)⟩⟩
  · have h1 : isMB (q.md g) a = false := by simpa using h1
    rw [if_pos h1, if_neg (by decide)]
    exact ⟨rfl, h.k0 (kW.trans k1), (kW.trans k1).q0⟩
  have h1 : isMB (q.md g) a = true := by simpa using h1
  rw [h1, if_neg (by decide)]
  have k2 : K0 w W2 := hW2.k0 (kW.trans k1)
  have h2 := h.k0 k2
  have d0 := hW2.cells 0 rfl
  have d1 := hW2.cells 1 rfl
  have heq : q.en (idI id, g) = q.en (idI id, g) := rfl
  generalize hX : q.en (idI id, g) = X at heq
  refine ⟨fun wx => K0 W2 wx, .refl _ _, some eb, fun wx k => (h2.k0 k).cE, id, fun wx k => AtL_block (k.blk d1 (fun h => h)) rfl, X.s.id, X.s.g, X.s.tx, X.s.r, X.s.st, X.s.mo, X.s.de, X.s.rs, X.le, X.ho, X.si, (aget q.es (idI id, g)).isSome, fun wx k => by have := (h2.k0 k).lookE hid hg; rw [hX] at this; exact this, fun n4 w4 hn4 => ⟨hn4.kp _, WrL_block hn4.block (by show 0 + 72 ≤ 72; omega), fun w5 p5 => ?_⟩⟩
  have k5 : K0 W2 w5 := put_k0 (hn4.kp _) p5 hn4.ge
  have b4 : w5.heap[n4]? = some (.cells (enC X).toArray 107 (0, 0)) := p5.full hn4.block rfl
  have k05 := k2.trans k5
  have h5 := h.k0 k05
  have e0 := k5.blk d0 (fun h => h)
  have e1 := k5.blk d1 (fun h => h)
  refine ⟨.of_k0 k5, bsp_intro (fun h3 => ?_) (fun h3 => ⟨X.s.st, cell_at b4 rfl, bsp_intro (fun h4 => ?_) (fun h4 => ?_)⟩)⟩
  · have h3 : (aget q.es (idI id, g)).isSome = false := by simpa using h3
    rw [if_pos h3, if_neg (by decide)]
    exact ⟨rfl, h5, k05.q0⟩
  · have h3 : (aget q.es (idI id, g)).isSome = true := by simpa using h3
    have h4 : X.s.st ≠ 0 := by simpa using h4
    rw [if_neg (by rw [h3]; decide), if_pos h4, if_neg (by decide)]
    exact ⟨rfl, h5, k05.q0⟩
  have h3 : (aget q.es (idI id, g)).isSome = true := by simpa using h3
  have h4 : X.s.st = 0 := by simpa using h4
  rw [if_neg (by rw [h3]; decide), if_neg (by omega)]
  obtain ⟨hxo, hxk⟩ := ho.en h3
  rw [hX] at hxo hxk
  refine ⟨X.s.id, X.s.g, X.s.tx, X.s.r, X.s.st, X.s.mo, X.s.de, X.s.rs, X.le, X.ho, X.si, AtL_block b4 rfl, ?_⟩
  refine ⟨(blocked_any X a now hxo ha hn w5).mono fun e w6 ⟨he, k6⟩ => ⟨_, he, .of_k0 k6, bsp_intro (fun h6 => ?_) (fun h6 => ?_)⟩⟩
  · rw [if_pos h6, if_neg (by decide)]
    exact ⟨rfl, h5.k0 k6, (k05.trans k6).q0⟩
  rw [if_neg (by rw [h6]; decide), if_pos rfl]
  have b6 := k6.blk b4 (fun h => h)
  have k06 := k05.trans k6
  have hm : ((idI id, g), X) ∈ q.es := by
    have h7 : aget q.es (idI id, g) = some X := by
      cases hgt : aget q.es (idI id, g) with
      | none => rw [hgt] at h3; cases h3
      | some y =>
        have : q.en (idI id, g) = y := by unfold Qu.en; rw [hgt]; rfl
        rw [← hX, this]
    exact aget_mem h7
  have hpos : 1 ≤ (q.es.filter fun p => p.2.s.st == 0).length := cnt_pos hm (by simp [h4])
  have hle : (q.es.filter fun p => p.2.s.st == 0).length ≤ q.es.length := List.length_filter_le _ _
  have hwt := ho.wt
  refine ⟨X.s.id, X.s.g, X.s.tx, X.s.r, X.s.st, X.s.mo, X.s.de, X.s.rs, AtL_block b6 rfl, ?_⟩
  refine ⟨(finish_any (h.k0 k06) (by omega) X.s hxo.s.id hxo.s.g a now st rs).mono fun e w7 ⟨he, h7, k7⟩ => ?_⟩
  generalize hY : finS39 X.s a now st rs = Y at he h7 ⊢
  refine ⟨Y.id, Y.g, Y.tx, Y.r, Y.st, Y.mo, Y.de, Y.rs, he, (h.k0 k06).kept k7 (fun k e => e) (fun z hz => ?_), rfl, h7, k06.q0.trans k7⟩
  simp only [List.mem_cons, List.not_mem_nil, or_false] at hz
  rcases hz with rfl | rfl
  · exact ⟨_, _, _, k6.blk e0 (fun h => h), rfl⟩
  · exact ⟨_, _, _, k6.blk e1 (fun h => h), rfl⟩

end Go.Proofs.YtfacflbmlfbeeaaGreatDoor

/- Chapter 39: queues stay as they should be; the contract of Approve. The library's variable MaxLen holds a number. -/
namespace Go.Proofs.YtfacflbmlfbeeaaGreatDoor
open Go.RowKit Go.Sort Go.Maps

theorem cnt_set {β : Type} {P : Ky × β → Bool} {k : Ky} {u v : β} : ∀ l : List (Ky × β), aget l k = some u → ((aset l k v).filter P).length + (if P (k, u) = true then 1 else 0) = (l.filter P).length + (if P (k, v) = true then 1 else 0)
  | [], h => by simp [aget] at h
  | (b, w) :: r, h => by
    unfold aget at h
    unfold aset
    by_cases hb : b = k
    · rw [if_pos hb] at h
      cases h
      subst hb
      rw [if_pos rfl]
      simp only [List.filter_cons]
      split <;> split <;> simp <;> omega
    · rw [if_neg hb] at h
      have ih := cnt_set (P := P) (v := v) r h
      rw [if_neg hb]
      cases hP : P (b, w) with
      | true => rw [List.filter_cons_of_pos hP, List.filter_cons_of_pos hP, List.length_cons, List.length_cons]; omega
      | false => rw [List.filter_cons_of_neg (by rw [hP]; decide), List.filter_cons_of_neg (by rw [hP]; decide)]; exact ih
theorem Qu.OK.setR {q q' : Qu} (h : q.OK) {g : ByteArray} {l : List (Nat → Int)} (hl : ∀ m ∈ l, BY m ∧ NZ 16 m) (hR : setR q g l q') : q'.OK := by
  rcases hR with ⟨_, rfl⟩ | ⟨_, _, rfl⟩ | ⟨hE, hne, x, hp, _, hc, rfl⟩
  · exact h
  · refine ⟨h.room, h.days, h.wt, fun g' y hy => ?_, h.es⟩
    have hy : aget (adel q.ms g) g' = some y := hy
    rw [aget_adel] at hy
    split at hy
    · cases hy
    · exact h.ms g' y hy
  · have h0 : gnE g = 0 ∧ ¬ 8 < l.length := by
      unfold setE at hE
      split at hE
      · contradiction
      · rename_i h1
        split at hE
        · cases hE
        · rename_i h2
          exact ⟨by simpa using h1, h2⟩
    refine ⟨h.room, h.days, h.wt, fun g' y hy => ?_, h.es⟩
    have hy : aget (aset q.ms g x) g' = some y := hy
    rw [aget_aset] at hy
    split at hy
    · rename_i e
      cases hy
      subst e
      refine ⟨h0.1, ⟨fun m hm => hl m (hp.subset hm), by rw [hp.length_eq]; omega, hc⟩, fun e => hne ?_⟩
      rw [e] at hp
      exact List.nil_perm.1 hp
    · exact h.ms g' y hy
theorem i64s {x : Int} (h : 0 ≤ x ∧ x ≤ 105190559) : I64 x := ⟨by omega, by omega⟩
theorem by0 : BY fun _ => 0 := fun _ => ⟨Int.le_refl 0, by show (0 : Int) ≤ 255; decide⟩
theorem newE_ok {id : Nat → Int} {g tx : ByteArray} {now : Int} (hid : BY id ∧ NZ 32 id) (hg : g.size ≤ 80) (ht : tx.size ≤ 65536) (hn : 0 ≤ now ∧ now ≤ 105190559) : (newE id g tx now).OK :=
  ⟨⟨hid.1, hid.2, by0, fun _ _ => rfl, by show g.size ≤ _; omega, by show tx.size ≤ _; omega, by show (⟨#[]⟩ : ByteArray).size ≤ _; decide, i64s hn, ⟨by show _ ≤ (0 : Int); decide, by show (0 : Int) ≤ _; decide⟩, ⟨by show _ ≤ (0 : Int); decide, by show (0 : Int) ≤ _; decide⟩⟩, by0, fun _ _ => rfl, ⟨by show (0 : Int) ≤ 0; decide, by show (0 : Int) ≤ _; decide⟩⟩
theorem Qu.OK.sub {q : Qu} (h : q.OK) {id : Nat → Int} {g tx : ByteArray} {now : Int} (hid : BY id ∧ NZ 32 id) : (subQ q id g tx now).OK := by
  unfold subQ
  split
  · rename_i h0
    unfold subE at h0
    split at h0
    · cases h0
    rename_i h1
    split at h0
    · contradiction
    rename_i h2
    split at h0
    · cases h0
    rename_i h3
    split at h0
    · cases h0
    split at h0
    · cases h0
    rename_i h5
    split at h0
    · cases h0
    have hn := minB_iff.1 (show minB now = true by simpa using h1)
    have h2 : gnE g = 0 := by simpa using h2
    have hg := gnE_sz39 h2
    have hnone : aget q.es (idI id, g) = none := by
      cases hgt : aget q.es (idI id, g) with
      | none => rfl
      | some y => rw [hgt] at h5; exact absurd rfl h5
    have hnew : aset q.es (idI id, g) (newE id g tx now) = q.es ++ [((idI id, g), newE id g tx now)] := aset_new (aget_none.1 hnone)
    refine ⟨h.room, h.days, ?_, h.ms, fun k x hx => ?_⟩
    · show q.wt + 1 = (((aset q.es (idI id, g) (newE id g tx now)).filter _).length : Nat)
      rw [hnew, List.filter_append, List.length_append]
      have := h.wt
      have e : ([((idI id, g), newE id g tx now)].filter fun p : Ky × En => p.2.s.st == 0).length = 1 := rfl
      rw [e]
      omega
    · have hx : aget (aset q.es (idI id, g) (newE id g tx now)) k = some x := hx
      rw [aget_aset] at hx
      split at hx
      · rename_i e
        cases hx
        exact ⟨newE_ok hid hg (by omega) hn, e.symm, h2, by show tx.size ≤ _; omega, by show (⟨#[]⟩ : ByteArray).size ≤ _; decide, hn, ⟨by show (0 : Int) ≤ 0; decide, by show (0 : Int) ≤ _; decide⟩, ⟨by show (0 : Int) ≤ 0; decide, by show (0 : Int) ≤ _; decide⟩⟩
      · exact h.es k x hx
  · exact h
theorem Qu.OK.put {q : Qu} (h : q.OK) {k : Ky} {u v : En} (hu : aget q.es k = some u) {wt : Int} (hw : wt + (if u.s.st == 0 then 1 else 0) = q.wt + (if v.s.st == 0 then 1 else 0))
    (hv : v.OK ∧ k = v.s.ky ∧ gnE v.s.g = 0 ∧ v.s.tx.size ≤ 65536 ∧ v.s.rs.size ≤ 200 ∧ (0 ≤ v.s.r ∧ v.s.r ≤ 105190559) ∧ (0 ≤ v.s.de ∧ v.s.de ≤ 105190559) ∧ (0 ≤ v.s.st ∧ v.s.st ≤ 3)) : ({ q with es := aset q.es k v, wt := wt } : Qu).OK := by
  refine ⟨h.room, h.days, ?_, h.ms, fun k' x hx => ?_⟩
  · show wt = (((aset q.es k v).filter _).length : Nat)
    have h1 := cnt_set (P := fun p : Ky × En => p.2.s.st == 0) (v := v) q.es hu
    have h2 := h.wt
    simp only at h1
    split at hw <;> split at hw <;> simp_all <;> omega
  · have hx : aget (aset q.es k v) k' = some x := hx
    rw [aget_aset] at hx
    split at hx
    · rename_i e; cases hx; subst e; exact hv
    · exact h.es k' x hx
theorem Qu.OK.clm {q : Qu} (h : q.OK) (hd : q.es.Pairwise fun p q => p.1 ≠ q.1) {P : En → Bool} {x : Sb} (hx : x ∈ selE P q.es) {a : Nat → Int} (ha : BY a ∧ NZ 16 a) {now : Int} (hn : 0 ≤ now ∧ now ≤ 105190559) : ({ q with es := aset q.es x.ky ⟨x, true, a, now⟩ } : Qu).OK := by
  obtain ⟨k, e, hm, _, rfl⟩ := selE_mem hx
  have hg := aget_at hd hm
  obtain ⟨h1, h2, h3⟩ := h.es k e hg
  subst h2
  exact h.put (v := ⟨e.s, true, a, now⟩) hg rfl ⟨⟨h1.s, ha.1, ha.2, hn⟩, rfl, h3⟩
theorem Qu.OK.fin {q : Qu} (h : q.OK) {k : Ky} {u : En} (hu : aget q.es k = some u) (hs : u.s.st = 0) {a : Nat → Int} (ha : BY a ∧ NZ 16 a) {now : Int} (hn : 0 ≤ now ∧ now ≤ 105190559) {st : Int} (hst : 1 ≤ st ∧ st ≤ 3) {rs : ByteArray} (hr : rs.size ≤ 200) : (finQ q (finS39 u.s a now st rs)).OK := by
  obtain ⟨h1, h2, h3, h4, h5, h6, h7, h8⟩ := h.es k u hu
  subst h2
  refine h.put (v := plainE (finS39 u.s a now st rs)) hu ?_ ⟨⟨⟨h1.s.id, h1.s.idz, ha.1, ha.2, h1.s.g, h1.s.tx, by show rs.size ≤ _; omega, h1.s.r, ⟨by show _ ≤ st; omega, by show st ≤ _; omega⟩, i64s hn⟩, by0, fun _ _ => rfl, ⟨by show (0 : Int) ≤ 0; decide, by show (0 : Int) ≤ _; decide⟩⟩, rfl, h3, h4, hr, h6, hn, ⟨by show 0 ≤ st; omega, hst.2⟩⟩
  have e1 : (u.s.st == 0) = true := by simp [hs]
  have e2 : ((plainE (finS39 u.s a now st rs)).s.st == 0) = false := by show (st == 0) = false; simp; omega
  rw [e1, e2]
  simp
theorem Qu.OK.dec {q : Qu} (h : q.OK) {id : Nat → Int} {g : ByteArray} {a : Nat → Int} (ha : BY a ∧ NZ 16 a) {now : Int} (hn : 0 ≤ now ∧ now ≤ 105190559) {st : Int} (hst : 1 ≤ st ∧ st ≤ 3) {rs : ByteArray} (hr : rs.size ≤ 200) : (decQ q id g a now st rs).OK := by
  unfold decQ
  split
  · rename_i h0
    unfold decE at h0
    split at h0
    · cases h0
    split at h0
    · cases h0
    rename_i h2
    split at h0
    · cases h0
    rename_i h3
    cases hgt : aget q.es (idI id, g) with
    | none => rw [hgt] at h2; exact absurd rfl h2
    | some u =>
      have hen : q.en (idI id, g) = u := by unfold Qu.en; rw [hgt]; rfl
      rw [hen] at h3 ⊢
      exact h.fin hgt (by simpa using h3) ha hn hst hr
  · exact h

/-! ### Approve -/
def apC (k : Int) (f : Nat → Int) (g : ByteArray) : List Value := ([.int .i64 k] : List Value) ++ (arrI .u8 f 32 0 ++ (([.string g, .int .i64 0, .bool false, .slice none 0 0, .string ⟨#[]⟩, .int .i64 0, .int .i64 0] : List Value) ++ arrI .u8 (fun _ => 0) 16 0))
def apE (q : Qu) (id : Nat → Int) (g : ByteArray) (a : Nat → Int) (now : Int) : Int := if minB now = false then 2 else decE q id g a now
def apQ (q : Qu) (id : Nat → Int) (g : ByteArray) (a : Nat → Int) (now st : Int) (rs : ByteArray) : Qu := if minB now = false then q else decQ q id g a now st rs
def cmdL (e : Int) (id : Nat → Int) (g : ByteArray) : List Value := if e = 0 then apC 2 id g else apC 0 (fun _ => 0) ⟨#[]⟩
set_option maxRecDepth 100000 in
theorem approve_any {w : World} {b mb eb : Nat} {q : Qu} (h : Mq w b mb eb q) (ho : q.OK) (hln : q.es.length ≤ 10000) (id : Nat → Int) (hid : BY id) (g : ByteArray) (hg : g.size ≤ 1073741824) (a : Nat → Int) (ha : BY a) (now : Int) :
    Calls Tryz.prog 19 #[.pointer (some ⟨b, 0, none⟩), .agg (arrI .u8 id 32 0).toArray, .string g, .agg (arrI .u8 a 16 0).toArray, .int .i64 now] w fun e w' => e = .returned (.tuple #[.agg (cmdL (apE q id g a now) id g).toArray, .int .i64 (apE q id g a now)]) ∧ Mq w' b mb eb (apQ q id g a now 1 ⟨#[]⟩) ∧ Kp (QB b mb eb) w w' := by
  refine vc_approve b id g a now w _ (fun n n1 n2 W hW => ?_)
  have kW : K0 w W := hW.kk rfl
  have c0 := hW.cells 0 rfl
  have c1 := hW.cells 1 rfl
  have c2 := hW.cells 2 rfl
  refine ⟨(begin_any b now W).mono fun e w1 ⟨he, k1⟩ => ⟨_, he, .of_k0 k1, bsp_intro (fun h1 W2 hW2 => ?_) (fun h1 => ?_)⟩⟩
  · have h1 : minB now = false := by
      cases hm : minB now with
      | false => rfl
      | true => rw [hm] at h1; simp at h1
    have hE : apE q id g a now = 2 := by unfold apE; rw [h1, if_pos rfl]
    have hQ : apQ q id g a now 1 ⟨#[]⟩ = q := by unfold apQ; rw [h1, if_pos rfl]
    have hC : cmdL 2 id g = apC 0 (fun _ => 0) ⟨#[]⟩ := by unfold cmdL; rw [if_neg (by decide)]
    rw [hE, hQ, hC, h1]
    have k2 : K0 w W2 := hW2.k0 (kW.trans k1)
    exact ⟨rfl, h.k0 k2, k2.q0⟩
  have h1 : minB now = true := by
    cases hm : minB now with
    | true => rfl
    | false => rw [hm] at h1; simp at h1
  have hE : apE q id g a now = decE q id g a now := by unfold apE; rw [h1, if_neg (by decide)]
  have hQ : apQ q id g a now 1 ⟨#[]⟩ = decQ q id g a now 1 ⟨#[]⟩ := by unfold apQ; rw [h1, if_neg (by decide)]
  rw [hE, hQ]
  have k01 := kW.trans k1
  refine ⟨(decide_any39 (h.k0 k01) ho hln id hid g hg a ha now (minB_iff.1 h1) 1 ⟨#[]⟩).mono fun e w2 ⟨he, h2, k2⟩ => ⟨_, he, (h.k0 k01).kept k2 (fun k e => e) (fun z hz => ?_), bsp_intro (fun h3 W3 hW3 => ?_) (fun h3 W3 hW3 => ?_)⟩⟩
  · simp only [List.mem_cons, List.not_mem_nil, or_false] at hz
    rcases hz with rfl | rfl | rfl
    · exact ⟨_, _, _, k1.blk c0 (fun h => h), rfl⟩
    · exact ⟨_, _, _, k1.blk c1 (fun h => h), rfl⟩
    · exact ⟨_, _, _, k1.blk c2 (fun h => h), rfl⟩
  · have h3 : decE q id g a now ≠ 0 := by simpa using h3
    have hC : cmdL (decE q id g a now) id g = apC 0 (fun _ => 0) ⟨#[]⟩ := by unfold cmdL; rw [if_neg h3]
    rw [hC]
    have hq : decQ q id g a now 1 ⟨#[]⟩ = q := by unfold decQ; rw [if_neg h3]
    rw [hq] at h2 ⊢
    exact ⟨rfl, h.loc h2 rfl (k01.q0.trans k2) hW3⟩
  · have h3 : decE q id g a now = 0 := by simpa using h3
    rw [h3]
    refine ⟨rfl, h.loc h2 ?_ (k01.q0.trans k2) hW3⟩
    unfold decQ
    split <;> rfl

end Go.Proofs.YtfacflbmlfbeeaaGreatDoor

/- Chapter 39, plain: texts in UTF-8: what code point stands first; a text's code points. No program in sight. -/
namespace Go.Proofs.YtfacflbmlfbeeaaGreatDoor
open Go.RowKit

/-- The number of bytes of an encoding that begins with c. -/
def lenU (c : Int) : Nat := if 240 ≤ c ∧ c ≤ 244 then 4 else if 224 ≤ c ∧ c ≤ 239 then 3 else if 194 ≤ c ∧ c ≤ 223 then 2 else if c ≤ 127 then 1 else 0
def conU (f : Int) (i : Nat) (c : Int) : Bool :=
  if i = 1 then (if f = 224 then decide (160 ≤ c) && decide (c ≤ 191) else if f = 237 then decide (128 ≤ c) && decide (c ≤ 159) else if f = 240 then decide (144 ≤ c) && decide (c ≤ 191) else if f = 244 then decide (128 ≤ c) && decide (c ≤ 143) else decide (128 ≤ c) && decide (c ≤ 191))
  else decide (128 ≤ c) && decide (c ≤ 191)
/-- Whether an encoding stands first. -/
def okU (s : ByteArray) : Prop := lenU (at8 s 0) ≠ 0 ∧ lenU (at8 s 0) ≤ s.size ∧ ∀ i, 1 ≤ i → i < lenU (at8 s 0) → conU (at8 s 0) i (at8 s i) = true
/-- The value of the first k bytes, of an encoding of n bytes. -/
def v0U (n : Nat) (c : Int) : Int := if n = 1 then c else if n = 2 then c - 192 else if n = 3 then c - 224 else c - 240
def valU (s : ByteArray) (n : Nat) : Nat → Int
  | 0 => 0
  | 1 => v0U n (at8 s 0)
  | k + 2 => 64 * valU s n (k + 1) + at8 s (k + 1) - 128
noncomputable def u8R (s : ByteArray) : Option (Int × Nat) := open Classical in if okU s then some (valU s (lenU (at8 s 0)) (lenU (at8 s 0)), lenU (at8 s 0)) else none
theorem lenU_le (c : Int) : lenU c ≤ 4 := by unfold lenU; (repeat' split) <;> omega
theorem u8R_pos {s : ByteArray} {r : Int} {n : Nat} (h : u8R s = some (r, n)) : 1 ≤ n ∧ n ≤ s.size := by
  unfold u8R at h
  split at h
  · rename_i hk
    cases h
    have := hk.1
    exact ⟨by omega, hk.2.1⟩
  · cases h
theorem conU_bd {f : Int} {i : Nat} {c : Int} (h : conU f i c = true) : 128 ≤ c ∧ c ≤ 191 := by
  unfold conU at h
  repeat' split at h
  all_goals
    simp only [Bool.and_eq_true, decide_eq_true_eq] at h
    omega
theorem conU_val {s : ByteArray} (h : okU s) : ∀ i, 1 ≤ i → i < lenU (at8 s 0) → 128 ≤ at8 s i ∧ at8 s i ≤ 191 := fun i h1 h2 => conU_bd (h.2.2 i h1 h2)

/-! ### The reference's test -/
def leadN (c : Int) : Nat := if c < 128 then 1 else if 192 ≤ c ∧ c < 224 then 2 else if 224 ≤ c ∧ c < 240 then 3 else if 240 ≤ c ∧ c < 248 then 4 else 0
def leastU (n : Nat) : Int := if n = 2 then 128 else if n = 3 then 2048 else if n = 4 then 65536 else 0
def mostU (n : Nat) : Int := if n = 1 then 127 else if n = 2 then 2047 else if n = 3 then 65535 else if n = 4 then 1114111 else 0
def loU (v : Int) : Nat → Int
  | 0 => v
  | k + 1 => loU (64 * v) k
def hiU (v : Int) : Nat → Int
  | 0 => v
  | k + 1 => hiU (64 * v + 63) k
def contS (s : ByteArray) : Prop := ∀ i, 1 ≤ i → i < s.size → 128 ≤ at8 s i ∧ at8 s i ≤ 191
def badU (n : Nat) (lo hi : Int) : Bool := (decide ((if leastU n > lo then leastU n else lo) ≥ 55296) && decide ((if mostU n < hi then mostU n else hi) ≤ 57343)) || decide ((if leastU n > lo then leastU n else lo) > if mostU n < hi then mostU n else hi)
def begP (s : ByteArray) : Prop := leadN (at8 s 0) ≠ 0 ∧ s.size ≤ leadN (at8 s 0) ∧ contS s ∧ badU (leadN (at8 s 0)) (loU (valU s (leadN (at8 s 0)) s.size) (leadN (at8 s 0) - s.size)) (hiU (valU s (leadN (at8 s 0)) s.size) (leadN (at8 s 0) - s.size)) = false
theorem beg_key : ∀ c : Fin 256, (leadN (c.val : Int) ≠ 0 ∧ badU (leadN (c.val : Int)) (loU (v0U (leadN (c.val : Int)) (c.val : Int)) (leadN (c.val : Int) - 1)) (hiU (v0U (leadN (c.val : Int)) (c.val : Int)) (leadN (c.val : Int) - 1)) = false) ↔ lenU (c.val : Int) ≠ 0 := by decide +kernel
/-- One byte: some encoding begins with it just if its length is not zero. -/
theorem beg_one {s : ByteArray} (hs : s.size = 1) : begP s ↔ lenU (at8 s 0) ≠ 0 := by
  have hb := at8_bd s 0
  have hv : valU s (leadN (at8 s 0)) s.size = v0U (leadN (at8 s 0)) (at8 s 0) := by rw [hs]; rfl
  have hc : contS s := fun i h1 h2 => by omega
  unfold begP
  rw [hv, hs]
  generalize at8 s 0 = c at hb
  have key := beg_key ⟨c.toNat, by omega⟩
  have e : ((c.toNat : Nat) : Int) = c := by omega
  simp only [e] at key
  constructor
  · rintro ⟨a1, _, _, a4⟩
    exact key.1 ⟨a1, a4⟩
  · intro h
    obtain ⟨a1, a4⟩ := key.2 h
    exact ⟨a1, by omega, hc, a4⟩
theorem lead_key : ∀ c : Fin 256, lenU (c.val : Int) ≠ 0 → leadN (c.val : Int) = lenU (c.val : Int) := by decide +kernel
theorem lead_len {c : Int} (hc : 0 ≤ c ∧ c ≤ 255) (h : lenU c ≠ 0) : leadN c = lenU c := by
  have key := lead_key ⟨c.toNat, by omega⟩
  have e : ((c.toNat : Nat) : Int) = c := by omega
  simp only [e] at key
  exact key h
theorem lenU_key : ∀ c : Fin 256, lenU (c.val : Int) ≠ 0 → (lenU (c.val : Int) = 1 ∧ (c.val : Int) ≤ 127) ∨ (lenU (c.val : Int) = 2 ∧ 194 ≤ (c.val : Int) ∧ (c.val : Int) ≤ 223) ∨ (lenU (c.val : Int) = 3 ∧ 224 ≤ (c.val : Int) ∧ (c.val : Int) ≤ 239) ∨ (lenU (c.val : Int) = 4 ∧ 240 ≤ (c.val : Int) ∧ (c.val : Int) ≤ 244) := by decide +kernel
theorem lenU_cases {c : Int} (hc : 0 ≤ c ∧ c ≤ 255) (h : lenU c ≠ 0) : (lenU c = 1 ∧ c ≤ 127) ∨ (lenU c = 2 ∧ 194 ≤ c ∧ c ≤ 223) ∨ (lenU c = 3 ∧ 224 ≤ c ∧ c ≤ 239) ∨ (lenU c = 4 ∧ 240 ≤ c ∧ c ≤ 244) := by
  have key := lenU_key ⟨c.toNat, by omega⟩
  have e : ((c.toNat : Nat) : Int) = c := by omega
  simp only [e] at key
  exact key h
theorem badU_eq {n : Nat} {v : Int} : badU n v v = false ↔ ¬ ((55296 ≤ (if leastU n > v then leastU n else v) ∧ (if mostU n < v then mostU n else v) ≤ 57343) ∨ (if leastU n > v then leastU n else v) > (if mostU n < v then mostU n else v)) := by
  unfold badU
  simp
/-- All bytes of an encoding. -/
theorem beg_full {s : ByteArray} (h0 : lenU (at8 s 0) ≠ 0) (hs : s.size = lenU (at8 s 0)) : begP s ↔ okU s := by
  have hb := at8_bd s 0
  have b1 := at8_bd s 1
  have b2 := at8_bd s 2
  have b3 := at8_bd s 3
  have hl := lead_len hb h0
  unfold begP okU
  rw [hl, hs, Nat.sub_self]
  show _ ∧ _ ∧ contS s ∧ badU (lenU (at8 s 0)) (valU s (lenU (at8 s 0)) (lenU (at8 s 0))) (valU s (lenU (at8 s 0)) (lenU (at8 s 0))) = false ↔ _
  rw [badU_eq]
  rcases lenU_cases hb h0 with ⟨e, h⟩ | ⟨e, h1, h2⟩ | ⟨e, h1, h2⟩ | ⟨e, h1, h2⟩
  · rw [e] at hs ⊢
    have hv : valU s 1 1 = at8 s 0 := rfl
    rw [hv]
    refine ⟨fun ⟨a1, a2, a3, a4⟩ => ⟨a1, a2, fun i h1 h2 => by omega⟩, fun ⟨a1, a2, a3⟩ => ⟨a1, a2, fun i h1 h2 => by omega, ?_⟩⟩
    simp only [leastU, mostU]
    simp
    (repeat' split) <;> omega
  · rw [e] at hs ⊢
    have hv : valU s 2 2 = 64 * (at8 s 0 - 192) + at8 s 1 - 128 := rfl
    rw [hv]
    have hc : ∀ c, conU (at8 s 0) 1 c = (decide (128 ≤ c) && decide (c ≤ 191)) := fun c => by
      unfold conU
      rw [if_pos rfl, if_neg (by omega), if_neg (by omega), if_neg (by omega), if_neg (by omega)]
    refine ⟨fun ⟨a1, a2, a3, a4⟩ => ⟨a1, a2, fun i h1 h2 => ?_⟩, fun ⟨a1, a2, a3⟩ => ?_⟩
    · obtain rfl : i = 1 := by omega
      have := a3 1 (by omega) (by omega)
      rw [hc]; simp; omega
    · have h3 := conU_bd (a3 1 (by omega) (by omega))
      refine ⟨a1, a2, fun i h1 h2 => ?_, ?_⟩
      · obtain rfl : i = 1 := by omega
        exact h3
      · simp only [leastU, mostU]
        simp
        (repeat' split) <;> omega
  · rw [e] at hs ⊢
    have hv : valU s 3 3 = 64 * (64 * (at8 s 0 - 224) + at8 s 1 - 128) + at8 s 2 - 128 := rfl
    rw [hv]
    have hc2 : ∀ c, conU (at8 s 0) 2 c = (decide (128 ≤ c) && decide (c ≤ 191)) := fun c => by
      unfold conU
      rw [if_neg (by decide)]
    refine ⟨fun ⟨a1, a2, a3, a4⟩ => ⟨a1, a2, fun i h1 h2 => ?_⟩, fun ⟨a1, a2, a3⟩ => ?_⟩
    · have c1 := a3 1 (by omega) (by omega)
      have c2 := a3 2 (by omega) (by omega)
      obtain rfl | rfl : i = 1 ∨ i = 2 := by omega
      · simp only [leastU, mostU] at a4
        simp at a4
        unfold conU
        rw [if_pos rfl]
        by_cases k1 : at8 s 0 = 224
        · rw [if_pos k1]; simp; (repeat' split at a4) <;> omega
        rw [if_neg k1]
        by_cases k2 : at8 s 0 = 237
        · rw [if_pos k2]; simp; (repeat' split at a4) <;> omega
        rw [if_neg k2, if_neg (by omega), if_neg (by omega)]
        simp; omega
      · rw [hc2]; simp; omega
    · have h3 := a3 1 (by omega) (by omega)
      have h4 := conU_bd h3
      have h5 := conU_bd (a3 2 (by omega) (by omega))
      refine ⟨a1, a2, fun i h1 h2 => ?_, ?_⟩
      · obtain rfl | rfl : i = 1 ∨ i = 2 := by omega
        · exact h4
        · exact h5
      · unfold conU at h3
        rw [if_pos rfl] at h3
        simp only [leastU, mostU]
        simp
        (repeat' split at h3) <;> simp at h3 <;> (repeat' split) <;> omega
  · rw [e] at hs ⊢
    have hv : valU s 4 4 = 64 * (64 * (64 * (at8 s 0 - 240) + at8 s 1 - 128) + at8 s 2 - 128) + at8 s 3 - 128 := rfl
    rw [hv]
    have hc2 : ∀ i c, 2 ≤ i → conU (at8 s 0) i c = (decide (128 ≤ c) && decide (c ≤ 191)) := fun i c hi => by
      unfold conU
      rw [if_neg (by omega)]
    refine ⟨fun ⟨a1, a2, a3, a4⟩ => ⟨a1, a2, fun i h1 h2 => ?_⟩, fun ⟨a1, a2, a3⟩ => ?_⟩
    · have c1 := a3 1 (by omega) (by omega)
      have c2 := a3 2 (by omega) (by omega)
      have c3 := a3 3 (by omega) (by omega)
      obtain rfl | hi : i = 1 ∨ 2 ≤ i := by omega
      · simp only [leastU, mostU] at a4
        simp at a4
        unfold conU
        rw [if_pos rfl, if_neg (by omega), if_neg (by omega)]
        by_cases k1 : at8 s 0 = 240
        · rw [if_pos k1]; simp; (repeat' split at a4) <;> omega
        rw [if_neg k1]
        by_cases k2 : at8 s 0 = 244
        · rw [if_pos k2]; simp; (repeat' split at a4) <;> omega
        rw [if_neg k2]
        simp; omega
      · have := a3 i (by omega) (by omega)
        rw [hc2 _ _ hi]; simp; omega
    · have h3 := a3 1 (by omega) (by omega)
      have h4 := conU_bd h3
      have h5 := conU_bd (a3 2 (by omega) (by omega))
      have h6 := conU_bd (a3 3 (by omega) (by omega))
      refine ⟨a1, a2, fun i h1 h2 => conU_bd (a3 i h1 (by omega)), ?_⟩
      unfold conU at h3
      rw [if_pos rfl] at h3
      simp only [leastU, mostU]
      simp
      (repeat' split at h3) <;> simp at h3 <;> (repeat' split) <;> omega

end Go.Proofs.YtfacflbmlfbeeaaGreatDoor

/- The formulas of functions by the symbolic evaluator, and that each gives the call's contract. Written by a program (gen.py). No condition. -/
namespace Go.Proofs.YtfacflbmlfbeeaaGreatDoor
set_option maxRecDepth 100000
set_option linter.unusedVariables false

def VC_ulen (c : Int) (w : World) (R : Ending -> World -> Prop) : Prop := bsp (decide (c ≥ 240) && decide (c <= 244)) (R (.returned (.int .i64 (IntKind.i64.wrap (IntKind.i64.wrap (IntKind.i64.wrap (IntKind.i64.wrap (0 + 1) + 1) + 1) + 1)))) w) (bsp (decide (c ≥ 224) && decide (c <= 239)) (R (.returned (.int .i64 (IntKind.i64.wrap (IntKind.i64.wrap (IntKind.i64.wrap (0 + 1) + 1) + 1)))) w) (bsp (decide (c ≥ 194) && decide (c <= 223)) (R (.returned (.int .i64 (IntKind.i64.wrap (IntKind.i64.wrap (0 + 1) + 1)))) w) (bsp (decide (c <= 127)) (R (.returned (.int .i64 (IntKind.i64.wrap (0 + 1)))) w) (R (.returned (.int .i64 0)) w))))
theorem vc_ulen (c : Int) (w : World) (R : Ending -> World -> Prop) (h : VC_ulen c w R) : Calls Tryz.prog 157 ([Value.int .u8 c] : List Value).toArray w R :=
 calls_of_exec2' (loops := []) (tails := []) (joins := []) (boxes := []) (rngs := []) (c := Tryz.f157.body.getD .skip) pur1_ok Tryz.func157 (by kernel_rfl) (by kernel_rfl) h

def VC_ucont (f : Int) (i : Int) (c : Int) (w : World) (R : Ending -> World -> Prop) : Prop := bsp (i == 1) (bsp (f == 224) (R (.returned (.bool (decide (c ≥ 160) && decide (c <= 191)))) w) (bsp (f == 237) (R (.returned (.bool (decide (c ≥ 128) && decide (c <= 159)))) w) (bsp (f == 240) (R (.returned (.bool (decide (c ≥ 144) && decide (c <= 191)))) w) (bsp (f == 244) (R (.returned (.bool (decide (c ≥ 128) && decide (c <= 143)))) w) (R (.returned (.bool (decide (c ≥ 128) && decide (c <= 191)))) w))))) (R (.returned (.bool (decide (c ≥ 128) && decide (c <= 191)))) w)
theorem vc_ucont (f : Int) (i : Int) (c : Int) (w : World) (R : Ending -> World -> Prop) (h : VC_ucont f i c w R) : Calls Tryz.prog 158 ([Value.int .u8 f, .int .i64 i, .int .u8 c] : List Value).toArray w R :=
 calls_of_exec2' (loops := []) (tails := []) (joins := []) (boxes := []) (rngs := []) (c := Tryz.f158.body.getD .skip) pur1_ok Tryz.func158 (by kernel_rfl) (by kernel_rfl) h

def VC_umeas (s : ByteArray) (w : World) (R : Ending -> World -> Prop) : Prop := gimp (!s.toList == []) ((0 : Int) <= 0 /\ 0 < (↑s.size : Int)) /\ bsp (!s.toList == []) (CallsS Tryz.prog 157 #[.int .u8 (at8 s 0)] w fun (e : Ending) (w' : World) => ∃ (x : Int), e = .returned (.int .i64 x) /\ KeptL [] w w' /\ bsp (false || x == 0) (R (.returned (.tuple #[.int .i64 0, .bool false])) w') (((0 : Int) <= 0 /\ 0 < (↑s.size : Int)) /\ CallsS Tryz.prog 157 #[.int .u8 (at8 s 0)] w' fun (e : Ending) (w'_1 : World) => ∃ (x : Int), e = .returned (.int .i64 x) /\ KeptL [] w' w'_1 /\ ∃ (I : List Value -> World -> Prop) (m : List Value -> World -> Nat), I [Value.int .i64 1] w'_1 /\ ∀ (x_1 : Int) (w' : World), I [Value.int .i64 x_1] w' -> gimp (decide (x_1 < x) && decide (x_1 < (↑s.size : Int))) ((0 : Int) <= 0 /\ 0 < (↑s.size : Int)) /\
 gimp (decide (x_1 < x) && decide (x_1 < (↑s.size : Int))) (0 <= x_1 /\ x_1 < (↑s.size : Int)) /\ ∀ (W : World), Loc w.heap.size [] w' W -> bsp (decide (x_1 < x) && decide (x_1 < (↑s.size : Int))) (CallsS Tryz.prog 158 #[.int .u8 (at8 s 0), .int .i64 x_1, .int .u8 (at8 s x_1.toNat)] W fun (e : Ending) (w'_2 : World) => ∃ (x_2 : Bool), e = .returned (.bool x_2) /\ KeptL [] W w'_2 /\ bsp (true && x_2) (I [Value.int .i64 (IntKind.i64.wrap (x_1 + 1))] w'_2 /\ m [Value.int .i64 (IntKind.i64.wrap (x_1 + 1))] w'_2 < m [Value.int .i64 x_1] w') (R (.returned (.tuple #[.int .i64 x_1, .bool (x_1 == x)])) w'_2)) (KeptL [] W W /\ R (.returned (.tuple #[.int .i64 x_1, .bool (x_1 == x)])) W))) (KeptL [] w w /\ R (.returned (.tuple #[.int .i64 0, .bool false])) w)
theorem vc_umeas (s : ByteArray) (w : World) (R : Ending -> World -> Prop) (h : VC_umeas s w R) : Calls Tryz.prog 135 ([Value.string s] : List Value).toArray w R :=
 calls_of_exec2' (loops := [(5, [(2, Ck.int .i64)])]) (tails := [(5, 16)]) (joins := []) (boxes := []) (rngs := []) (c := Tryz.f135.body.getD .skip) pur1_ok Tryz.func135 (by kernel_rfl) (by kernel_rfl) h

def VC_uval (s : ByteArray) (w : World) (R : Ending -> World -> Prop) : Prop := ((0 : Int) <= 0 /\ 0 < (↑s.size : Int)) /\ bsp (decide ((↑s.size : Int) > 1)) (∃ (I : List Value -> World -> Prop) (m : List Value -> World -> Nat), I [Value.int .i64 1, .int .i32 (IntKind.i32.wrap (↑(BitVec.ofInt 32 (IntKind.i32.wrap (at8 s 0)) &&& BitVec.ofInt 32 (Int.fdiv 127 (2 ^ min (↑s.size : Int).toNat 32))).toNat : Int))] w /\ ∀ (x x_1 : Int) (w' : World), I [Value.int .i64 x, .int .i32 x_1] w' -> bsp (decide (x < (↑s.size : Int))) ((0 <= x /\ x < (↑s.size : Int)) /\ I [Value.int .i64 (IntKind.i64.wrap (x + 1)), .int .i32 (IntKind.i32.wrap (↑(BitVec.ofInt 32 (IntKind.i32.wrap (x_1 * 2 ^ 6)) ||| BitVec.ofInt 32 (IntKind.i32.wrap (IntKind.u8.wrap (↑(BitVec.ofInt 8 (at8 s x.toNat) &&& BitVec.ofInt 8 63).toNat : Int)))).toNat : Int))] w' /\ m [Value.int .i64 (IntKind.i64.wrap (x + 1)), .int .i32
 (IntKind.i32.wrap (↑(BitVec.ofInt 32 (IntKind.i32.wrap (x_1 * 2 ^ 6)) ||| BitVec.ofInt 32 (IntKind.i32.wrap (IntKind.u8.wrap (↑(BitVec.ofInt 8 (at8 s x.toNat) &&& BitVec.ofInt 8 63).toNat : Int)))).toNat : Int))] w' < m [Value.int .i64 x, .int .i32 x_1] w') (R (.returned (.int .i32 x_1)) w')) (∃ (I : List Value -> World -> Prop) (m : List Value -> World -> Nat), I [Value.int .i64 1, .int .i32 (IntKind.i32.wrap (at8 s 0))] w /\ ∀ (x x_1 : Int) (w' : World), I [Value.int .i64 x, .int .i32 x_1] w' -> bsp (decide (x < (↑s.size : Int))) ((0 <= x /\ x < (↑s.size : Int)) /\ I [Value.int .i64 (IntKind.i64.wrap (x + 1)), .int .i32 (IntKind.i32.wrap (↑(BitVec.ofInt 32 (IntKind.i32.wrap (x_1 * 2 ^ 6)) ||| BitVec.ofInt 32 (IntKind.i32.wrap (IntKind.u8.wrap (↑(BitVec.ofInt 8 (at8 s x.toNat) &&& BitVec.ofInt 8 63).toNat : Int)))).toNat : Int))] w' /\ m [Value.int .i64 (IntKind.i64.wrap (x + 1)),
 .int .i32 (IntKind.i32.wrap (↑(BitVec.ofInt 32 (IntKind.i32.wrap (x_1 * 2 ^ 6)) ||| BitVec.ofInt 32 (IntKind.i32.wrap (IntKind.u8.wrap (↑(BitVec.ofInt 8 (at8 s x.toNat) &&& BitVec.ofInt 8 63).toNat : Int)))).toNat : Int))] w' < m [Value.int .i64 x, .int .i32 x_1] w') (R (.returned (.int .i32 x_1)) w'))
theorem vc_uval (s : ByteArray) (w : World) (R : Ending -> World -> Prop) (h : VC_uval s w R) : Calls Tryz.prog 136 ([Value.string s] : List Value).toArray w R :=
 calls_of_exec2' (loops := [(5, [(4, Ck.int .i64), (3, Ck.int .i32)])]) (tails := []) (joins := []) (boxes := []) (rngs := []) (c := Tryz.f136.body.getD .skip) pur1_ok Tryz.func136 (by kernel_rfl) (by kernel_rfl) h

def VC_udec (s : ByteArray) (w : World) (R : Ending -> World -> Prop) : Prop := bsp (s.toList == []) (R (.returned (.tuple #[.int .i32 0, .int .i64 0, .int .i64 1])) w) (CallsS Tryz.prog 135 #[.string s] w fun (e : Ending) (w' : World) => ∃ (x : Int) (x_1 : Bool), e = .returned (.tuple #[.int .i64 x, .bool x_1]) /\ KeptL [] w w' /\ bsp x_1 ((0 <= x /\ x <= (↑s.size : Int)) /\ CallsS Tryz.prog 136 #[.string (s.extract 0 x.toNat)] w' fun (e : Ending) (w'_1 : World) => ∃ (x_2 : Int), e = .returned (.int .i32 x_2) /\ KeptL [] w' w'_1 /\ R (.returned (.tuple #[.int .i32 x_2, .int .i64 x, .int .i64 0])) w'_1) (bsp (x == 0) (R (.returned (.tuple #[.int .i32 0, .int .i64 0, .int .i64 6])) w') (bsp (x == (↑s.size : Int)) (R (.returned (.tuple #[.int .i32 0, .int .i64 0, .int .i64 23])) w') (R (.returned (.tuple #[.int .i32 0, .int .i64 0, .int .i64 3])) w'))))
theorem vc_udec (s : ByteArray) (w : World) (R : Ending -> World -> Prop) (h : VC_udec s w R) : Calls Tryz.prog 115 ([Value.string s] : List Value).toArray w R :=
 calls_of_exec2' (loops := []) (tails := []) (joins := []) (boxes := []) (rngs := []) (c := Tryz.f115.body.getD .skip) pur1_ok Tryz.func115 (by kernel_rfl) (by kernel_rfl) h

def VC_ucheck (s : ByteArray) (w : World) (R : Ending -> World -> Prop) : Prop := ∃ (I : List Value -> World -> Prop) (m : List Value -> World -> Nat), I [Value.int .i64 0] w /\ ∀ (x : Int) (w' : World), I [Value.int .i64 x] w' -> bsp (decide (x < (↑s.size : Int))) ((0 <= x /\ x <= (↑s.size : Int)) /\ CallsS Tryz.prog 115 #[.string (s.extract x.toNat s.size)] w' fun (e : Ending) (w'_1 : World) => ∃ (x_1 : Int) (x_2 : Int) (x_3 : Int), e = .returned (.tuple #[.int .i32 x_1, .int .i64 x_2, .int .i64 x_3]) /\ KeptL [] w' w'_1 /\ bsp (x_3 != 0) (R (.returned (.tuple #[.int .i64 x, .int .i64 x_3])) w'_1) (I [Value.int .i64 (IntKind.i64.wrap (x + x_2))] w'_1 /\ m [Value.int .i64 (IntKind.i64.wrap (x + x_2))] w'_1 < m [Value.int .i64 x] w')) (R (.returned (.tuple #[.int .i64 0, .int .i64 0])) w')
theorem vc_ucheck (s : ByteArray) (w : World) (R : Ending -> World -> Prop) (h : VC_ucheck s w R) : Calls Tryz.prog 113 ([Value.string s] : List Value).toArray w R :=
 calls_of_exec2' (loops := [(2, [(4, Ck.int .i64)])]) (tails := []) (joins := []) (boxes := []) (rngs := []) (c := Tryz.f113.body.getD .skip) pur1_ok Tryz.func113 (by kernel_rfl) (by kernel_rfl) h

def VC_uvalid (s : ByteArray) (w : World) (R : Ending -> World -> Prop) : Prop := CallsS Tryz.prog 113 #[.string s] w fun (e : Ending) (w' : World) => ∃ (x : Int) (x_1 : Int), e = .returned (.tuple #[.int .i64 x, .int .i64 x_1]) /\ KeptL [] w w' /\ R (.returned (.bool (x_1 == 0))) w'
theorem vc_uvalid (s : ByteArray) (w : World) (R : Ending -> World -> Prop) (h : VC_uvalid s w R) : Calls Tryz.prog 91 ([Value.string s] : List Value).toArray w R :=
 calls_of_exec2' (loops := []) (tails := []) (joins := []) (boxes := []) (rngs := []) (c := Tryz.f91.body.getD .skip) pur1_ok Tryz.func91 (by kernel_rfl) (by kernel_rfl) h

def VC_uctl (r : Int) (w : World) (R : Ending -> World -> Prop) : Prop := R (.returned (.bool (decide (r <= 31) || decide (r ≥ 127) && decide (r <= 159) || r == 8232 || r == 8233))) w
theorem vc_uctl (r : Int) (w : World) (R : Ending -> World -> Prop) (h : VC_uctl r w R) : Calls Tryz.prog 93 ([Value.int .i32 r] : List Value).toArray w R :=
 calls_of_exec2' (loops := []) (tails := []) (joins := []) (boxes := []) (rngs := []) (c := Tryz.f93.body.getD .skip) pur1_ok Tryz.func93 (by kernel_rfl) (by kernel_rfl) h

def VC_urunes (s : ByteArray) (w : World) (R : Ending -> World -> Prop) : Prop := ∀ (n : Nat) (W : World), Loc w.heap.size [Blk.mk n 9 [Value.string s] 2] w W -> R (.returned (Value.func (Fn.func 114) #[] #[.pointer (some (Addr.mk n 0 none))])) W
theorem vc_urunes (s : ByteArray) (w : World) (R : Ending -> World -> Prop) (h : VC_urunes s w R) : Calls Tryz.prog 92 ([Value.string s] : List Value).toArray w R :=
 calls_of_exec2' (loops := []) (tails := []) (joins := []) (boxes := []) (rngs := []) (c := Tryz.f92.body.getD .skip) pur1_ok Tryz.func92 (by kernel_rfl) (by kernel_rfl) h

def VC_xlead (c : Int) (w : World) (R : Ending -> World -> Prop) : Prop := bsp (decide (c < 128)) (R (.returned (.tuple #[.int .i64 1, .int .i64 (IntKind.i64.wrap c)])) w) (bsp (decide (c ≥ 192) && decide (c < 224)) (R (.returned (.tuple #[.int .i64 2, .int .i64 (IntKind.i64.wrap (IntKind.i64.wrap c - 192))])) w) (bsp (decide (c ≥ 224) && decide (c < 240)) (R (.returned (.tuple #[.int .i64 3, .int .i64 (IntKind.i64.wrap (IntKind.i64.wrap c - 224))])) w) (bsp (decide (c ≥ 240) && decide (c < 248)) (R (.returned (.tuple #[.int .i64 4, .int .i64 (IntKind.i64.wrap (IntKind.i64.wrap c - 240))])) w) (R (.returned (.tuple #[.int .i64 0, .int .i64 0])) w))))
theorem vc_xlead (c : Int) (w : World) (R : Ending -> World -> Prop) (h : VC_xlead c w R) : Calls Tryz.prog 137 ([Value.int .u8 c] : List Value).toArray w R :=
 calls_of_exec2' (loops := []) (tails := []) (joins := []) (boxes := []) (rngs := []) (c := Tryz.f137.body.getD .skip) pur1_ok Tryz.func137 (by kernel_rfl) (by kernel_rfl) h

def VC_xleast (n : Int) (w : World) (R : Ending -> World -> Prop) : Prop := ∀ (n_1 : Nat) (W : World), Loc w.heap.size [Blk.mk n_1 3 [Value.int .i64 0, .int .i64 0, .int .i64 128, .int .i64 2048, .int .i64 65536] 2] w W -> (0 <= n /\ n < (↑5 : Int)) /\ ∃ (x : Int), W.cell? (Addr.mk n_1 (0 + n.toNat) none) = some (.int .i64 x) /\ R (.returned (.int .i64 x)) W
theorem vc_xleast (n : Int) (w : World) (R : Ending -> World -> Prop) (h : VC_xleast n w R) : Calls Tryz.prog 138 ([Value.int .i64 n] : List Value).toArray w R :=
 calls_of_exec2' (loops := []) (tails := []) (joins := []) (boxes := []) (rngs := []) (c := Tryz.f138.body.getD .skip) pur1_ok Tryz.func138 (by kernel_rfl) (by kernel_rfl) h

def VC_xmost (n : Int) (w : World) (R : Ending -> World -> Prop) : Prop := ∀ (n_1 : Nat) (W : World), Loc w.heap.size [Blk.mk n_1 3 [Value.int .i64 0, .int .i64 127, .int .i64 2047, .int .i64 65535, .int .i64 1114111] 2] w W -> (0 <= n /\ n < (↑5 : Int)) /\ ∃ (x : Int), W.cell? (Addr.mk n_1 (0 + n.toNat) none) = some (.int .i64 x) /\ R (.returned (.int .i64 x)) W
theorem vc_xmost (n : Int) (w : World) (R : Ending -> World -> Prop) (h : VC_xmost n w R) : Calls Tryz.prog 139 ([Value.int .i64 n] : List Value).toArray w R :=
 calls_of_exec2' (loops := []) (tails := []) (joins := []) (boxes := []) (rngs := []) (c := Tryz.f139.body.getD .skip) pur1_ok Tryz.func139 (by kernel_rfl) (by kernel_rfl) h

def VC_xbegins (s : ByteArray) (w : World) (R : Ending -> World -> Prop) : Prop := ((0 : Int) <= 0 /\ 0 < (↑s.size : Int)) /\ CallsS Tryz.prog 137 #[.int .u8 (at8 s 0)] w fun (e : Ending) (w' : World) => ∃ (x : Int) (x_1 : Int), e = .returned (.tuple #[.int .i64 x, .int .i64 x_1]) /\ KeptL [] w w' /\ bsp (x == 0 || decide ((↑s.size : Int) > x)) (R (.returned (.tuple #[.bool false, .int .i64 0, .int .i64 0])) w') (∃ (I : List Value -> World -> Prop) (m : List Value -> World -> Nat), I [Value.int .i64 1, .int .i64 x_1] w' /\ ∀ (x_2 x_3 : Int) (w' : World), I [Value.int .i64 x_2, .int .i64 x_3] w' -> bsp (decide (x_2 < (↑s.size : Int))) ((0 <= x_2 /\ x_2 < (↑s.size : Int)) /\ gimp (!decide (at8 s x_2.toNat < 128)) (0 <= x_2 /\ x_2 < (↑s.size : Int)) /\ bsp (decide (at8 s x_2.toNat < 128) || decide (at8 s x_2.toNat > 191))
 (R (.returned (.tuple #[.bool false, .int .i64 0, .int .i64 0])) w') ((0 <= x_2 /\ x_2 < (↑s.size : Int)) /\ I [Value.int .i64 (IntKind.i64.wrap (x_2 + 1)), .int .i64 (IntKind.i64.wrap (IntKind.i64.wrap (IntKind.i64.wrap (64 * x_3) + IntKind.i64.wrap (at8 s x_2.toNat)) - 128))] w' /\ m [Value.int .i64 (IntKind.i64.wrap (x_2 + 1)), .int .i64 (IntKind.i64.wrap (IntKind.i64.wrap (IntKind.i64.wrap (64 * x_3) + IntKind.i64.wrap (at8 s x_2.toNat)) - 128))] w' < m [Value.int .i64 x_2, .int .i64 x_3] w')) (∃ (I : List Value -> World -> Prop) (m : List Value -> World -> Nat), I [Value.int .i64 (↑s.size : Int), .int .i64 x_3, .int .i64 x_3] w' /\ ∀ (x_4 x_5 x_6 : Int) (w' : World), I [Value.int .i64 x_4, .int .i64 x_5, .int .i64 x_6] w' -> bsp (decide (x_4 < x)) (I [Value.int .i64 (IntKind.i64.wrap (x_4 + 1)), .int .i64 (IntKind.i64.wrap (IntKind.i64.wrap (64 * x_5) + 63)),
 .int .i64 (IntKind.i64.wrap (64 * x_6))] w' /\ m [Value.int .i64 (IntKind.i64.wrap (x_4 + 1)), .int .i64 (IntKind.i64.wrap (IntKind.i64.wrap (64 * x_5) + 63)), .int .i64 (IntKind.i64.wrap (64 * x_6))] w' < m [Value.int .i64 x_4, .int .i64 x_5, .int .i64 x_6] w') (CallsS Tryz.prog 138 #[.int .i64 x] w' fun (e : Ending) (w'_1 : World) => ∃ (x_7 : Int), e = .returned (.int .i64 x_7) /\ KeptL [] w' w'_1 /\ CallsS Tryz.prog 139 #[.int .i64 x] w'_1 fun (e : Ending) (w' : World) => ∃ (x_8 : Int), e = .returned (.int .i64 x_8) /\ KeptL [] w'_1 w' /\ bsp (decide ((if x_7 > x_6 then x_7 else x_6) ≥ 55296) && decide ((if x_8 < x_5 then x_8 else x_5) <= 57343) || decide ((if x_7 > x_6 then x_7 else x_6) > if x_8 < x_5 then x_8 else x_5)) (R (.returned (.tuple #[.bool false, .int .i64 0, .int .i64 0])) w') (R (.returned (.tuple #[.bool true, .int .i64 x, .int .i64 x_3])) w'))))
theorem vc_xbegins (s : ByteArray) (w : World) (R : Ending -> World -> Prop) (h : VC_xbegins s w R) : Calls Tryz.prog 116 ([Value.string s] : List Value).toArray w R :=
 calls_of_exec2' (loops := [(5, [(7, Ck.int .i64), (6, Ck.int .i64)]), (12, [(10, Ck.int .i64), (9, Ck.int .i64), (8, Ck.int .i64)])]) (tails := []) (joins := []) (boxes := []) (rngs := []) (c := Tryz.f116.body.getD .skip) pur1_ok Tryz.func116 (by kernel_rfl) (by kernel_rfl) h

def VC_xfirst (s : ByteArray) (w : World) (R : Ending -> World -> Prop) : Prop := ((0 : Int) <= 1 /\ 1 <= (↑s.size : Int)) /\ CallsS Tryz.prog 116 #[.string (s.extract 0 1)] w fun (e : Ending) (w' : World) => ∃ (x : Bool) (x_1 : Int) (x_2 : Int), e = .returned (.tuple #[.bool x, .int .i64 x_1, .int .i64 x_2]) /\ KeptL [] w w' /\ bsp (!x) (R (.returned (.tuple #[.int .i64 0, .int .i64 0, .int .i64 6])) w') (bsp (decide ((↑s.size : Int) ≥ x_1)) ((0 <= x_1 /\ x_1 <= (↑s.size : Int)) /\ CallsS Tryz.prog 116 #[.string (s.extract 0 x_1.toNat)] w' fun (e : Ending) (w'_1 : World) => ∃ (x : Bool) (x_3 : Int) (x_4 : Int), e = .returned (.tuple #[.bool x, .int .i64 x_3, .int .i64 x_4]) /\ KeptL [] w' w'_1 /\ bsp x (R (.returned (.tuple #[.int .i64 x_4, .int .i64 x_1, .int .i64 0])) w'_1) (R (.returned (.tuple #[.int .i64 0, .int .i64 0, .int .i64 3])) w'_1))
 (CallsS Tryz.prog 116 #[.string s] w' fun (e : Ending) (w'_1 : World) => ∃ (x : Bool) (x_3 : Int) (x_4 : Int), e = .returned (.tuple #[.bool x, .int .i64 x_3, .int .i64 x_4]) /\ KeptL [] w' w'_1 /\ bsp x (R (.returned (.tuple #[.int .i64 0, .int .i64 0, .int .i64 23])) w'_1) (R (.returned (.tuple #[.int .i64 0, .int .i64 0, .int .i64 3])) w'_1)))
theorem vc_xfirst (s : ByteArray) (w : World) (R : Ending -> World -> Prop) (h : VC_xfirst s w R) : Calls Tryz.prog 96 ([Value.string s] : List Value).toArray w R :=
 calls_of_exec2' (loops := []) (tails := []) (joins := []) (boxes := []) (rngs := []) (c := Tryz.f96.body.getD .skip) pur1_ok Tryz.func96 (by kernel_rfl) (by kernel_rfl) h

def VC_xall (s : ByteArray) (w : World) (R : Ending -> World -> Prop) : Prop := ∃ (I : List Value -> World -> Prop) (m : List Value -> World -> Nat), I [Value.int .i64 0, .slice none 0 0, .slice none 0 0] w /\ ∀ (x : Int) (p : Option Addr) (n c : Nat) (p_1 : Option Addr) (n_1 c_1 : Nat) (w' : World), I [Value.int .i64 x, .slice p n c, .slice p_1 n_1 c_1] w' -> bsp (decide (x < (↑s.size : Int))) ((0 <= x /\ x <= (↑s.size : Int)) /\ CallsS Tryz.prog 96 #[.string (s.extract x.toNat s.size)] w' fun (e : Ending) (w'_1 : World) => ∃ (x_1 : Int) (x_2 : Int) (x_3 : Int), e = .returned (.tuple #[.int .i64 x_1, .int .i64 x_2, .int .i64 x_3]) /\ KeptL [] w' w'_1 /\ bsp (x_3 != 0) (R (.returned (.tuple #[.slice p_1 n_1 c_1, .slice p n c, .int .i64 x, .int .i64 x_3])) w'_1) (∀ (n_2 : Nat) (W : World), Loc w.heap.size [Blk.mk n_2 3 [Value.int .i64 x_1] 2] w'_1 W -> ∃ (base : Nat),
 ∃ (xs : List Value), W.ownsRow base 3 1 (.slice p_1 n_1 c_1) n_1 xs /\ n_1 + 1 <= 9223372036854775807 /\ (n_1 + 1) * 8 <= 140737488355328 /\ base <= W.heap.size /\ ∀ (p' : Option Addr) (c' : Nat) (w'_2 : World), w'_2.ownsRow base 3 1 (.slice p' (n_1 + 1) c') (n_1 + 1) (xs ++ [Value.int .i64 x_1]) -> W.grownBy w'_2 (Value.slice p_1 n_1 c_1).ownBlock -> AppL W p_1 n_1 c_1 1 p' c' -> KeptL [] W w'_2 /\ ∀ (n_3 : Nat) (W : World), Loc w.heap.size [Blk.mk n_3 3 [Value.int .i64 x] 2] w'_2 W -> ∃ (base : Nat) (xs : List Value), W.ownsRow base 3 1 (.slice p n c) n xs /\ n + 1 <= 9223372036854775807 /\ (n + 1) * 8 <= 140737488355328 /\ base <= W.heap.size /\ ∀ (p'_1 : Option Addr) (c'_1 : Nat) (w'_3 : World), w'_3.ownsRow base 3 1 (.slice p'_1 (n + 1) c'_1) (n + 1) (xs ++ [Value.int .i64 x]) -> W.grownBy w'_3 (Value.slice p n c).ownBlock -> AppL W p n c 1 p'_1 c'_1 -> KeptL [] W w'_3 /\ I
 [Value.int .i64 (IntKind.i64.wrap (x + x_2)), .slice p'_1 (n + 1) c'_1, .slice p' (n_1 + 1) c'] w'_3 /\ m [Value.int .i64 (IntKind.i64.wrap (x + x_2)), .slice p'_1 (n + 1) c'_1, .slice p' (n_1 + 1) c'] w'_3 < m [Value.int .i64 x, .slice p n c, .slice p_1 n_1 c_1] w')) (R (.returned (.tuple #[.slice p_1 n_1 c_1, .slice p n c, .int .i64 0, .int .i64 0])) w')
theorem vc_xall (s : ByteArray) (w : World) (R : Ending -> World -> Prop) (h : VC_xall s w R) : Calls Tryz.prog 58 ([Value.string s] : List Value).toArray w R :=
 calls_of_exec2' (loops := [(3, [(8, Ck.int .i64), (7, Ck.slice), (6, Ck.slice)])]) (tails := []) (joins := []) (boxes := []) (rngs := []) (c := Tryz.f58.body.getD .skip) pur1_ok Tryz.func58 (by kernel_rfl) (by kernel_rfl) h

def VC_xctl (r : Int) (w : World) (R : Ending -> World -> Prop) : Prop := R (.returned (.bool (decide (r < 32) || decide (r ≥ 127) && decide (r <= 159) || r == 8232 || r == 8233))) w
theorem vc_xctl (r : Int) (w : World) (R : Ending -> World -> Prop) (h : VC_xctl r w R) : Calls Tryz.prog 59 ([Value.int .i64 r] : List Value).toArray w R :=
 calls_of_exec2' (loops := []) (tails := []) (joins := []) (boxes := []) (rngs := []) (c := Tryz.f59.body.getD .skip) pur1_ok Tryz.func59 (by kernel_rfl) (by kernel_rfl) h

end Go.Proofs.YtfacflbmlfbeeaaGreatDoor

/- Chapter 39: the contracts of the functions of utf8: length, continues, measure, value, Decode. No condition but sizes. -/
namespace Go.Proofs.YtfacflbmlfbeeaaGreatDoor
open Go.RowKit

theorem wr32 {z : Int} (h : 0 ≤ z ∧ z < 2147483648) : IntKind.i32.wrap z = z := by
  simp [IntKind.wrap, IntKind.bits, IntKind.signed]
  omega
theorem and63 : ∀ b : Fin 256, IntKind.u8.wrap ((BitVec.ofInt 8 (b.val : Int) &&& BitVec.ofInt 8 63).toNat : Nat) = (b.val : Int) % 64 := by decide +kernel
theorem or6 {x b : Int} (hx : 0 ≤ x ∧ x < 16777216) (hb : 128 ≤ b ∧ b ≤ 191) :
    IntKind.i32.wrap ((BitVec.ofInt 32 (IntKind.i32.wrap (x * 2 ^ 6)) ||| BitVec.ofInt 32 (IntKind.i32.wrap (IntKind.u8.wrap ((BitVec.ofInt 8 b &&& BitVec.ofInt 8 63).toNat : Nat)))).toNat : Nat) = 64 * x + b - 128 := by
  have h1 := and63 ⟨b.toNat, by omega⟩
  have e1 : ((b.toNat : Nat) : Int) = b := by omega
  simp only [e1] at h1
  rw [h1, wr32 (z := b % 64) (by omega), wr32 (z := x * 2 ^ 6) (by omega)]
  obtain ⟨n, rfl⟩ : ∃ n : Nat, x = n := ⟨x.toNat, by omega⟩
  have e2 : (BitVec.ofInt 32 ((n : Int) * 2 ^ 6) ||| BitVec.ofInt 32 (b % 64)).toNat = 64 * n + (b % 64).toNat := by
    rw [BitVec.toNat_or, BitVec.toNat_ofInt, BitVec.toNat_ofInt]
    have a1 : ((n : Int) * 2 ^ 6 % ((2 ^ 32 : Nat) : Int)).toNat = n <<< 6 := by
      rw [Nat.shiftLeft_eq]; omega
    have a2 : (b % 64 % ((2 ^ 32 : Nat) : Int)).toNat = (b % 64).toNat := by omega
    rw [a1, a2, ← Nat.shiftLeft_add_eq_or_of_lt (by omega), Nat.shiftLeft_eq]
    omega
  rw [e2, wr32 (by omega)]
  omega
theorem msk2 : ∀ c : Fin 256, lenU (c.val : Int) = 2 → IntKind.i32.wrap ((BitVec.ofInt 32 (IntKind.i32.wrap (c.val : Int)) &&& BitVec.ofInt 32 (Int.fdiv 127 (2 ^ min (2 : Nat) 32))).toNat : Nat) = v0U 2 (c.val : Int) := by decide +kernel
theorem msk3 : ∀ c : Fin 256, lenU (c.val : Int) = 3 → IntKind.i32.wrap ((BitVec.ofInt 32 (IntKind.i32.wrap (c.val : Int)) &&& BitVec.ofInt 32 (Int.fdiv 127 (2 ^ min (3 : Nat) 32))).toNat : Nat) = v0U 3 (c.val : Int) := by decide +kernel
theorem msk4 : ∀ c : Fin 256, lenU (c.val : Int) = 4 → IntKind.i32.wrap ((BitVec.ofInt 32 (IntKind.i32.wrap (c.val : Int)) &&& BitVec.ofInt 32 (Int.fdiv 127 (2 ^ min (4 : Nat) 32))).toNat : Nat) = v0U 4 (c.val : Int) := by decide +kernel
theorem msk {c : Int} (hc : 0 ≤ c ∧ c ≤ 255) {n : Nat} (hl : lenU c = n) (hn : 2 ≤ n) : IntKind.i32.wrap ((BitVec.ofInt 32 (IntKind.i32.wrap c) &&& BitVec.ofInt 32 (Int.fdiv 127 (2 ^ min n 32))).toNat : Nat) = v0U n c := by
  have e : ((c.toNat : Nat) : Int) = c := by omega
  have h4 := lenU_le c
  obtain rfl | rfl | rfl : n = 2 ∨ n = 3 ∨ n = 4 := by omega
  · have := msk2 ⟨c.toNat, by omega⟩; simp only [e] at this; exact this hl
  · have := msk3 ⟨c.toNat, by omega⟩; simp only [e] at this; exact this hl
  · have := msk4 ⟨c.toNat, by omega⟩; simp only [e] at this; exact this hl
theorem ulen_any (c : Int) (hc : 0 ≤ c ∧ c ≤ 255) (w : World) : Calls Tryz.prog 157 #[.int .u8 c] w fun e w' => e = .returned (.int .i64 (lenU c : Nat)) ∧ K0 w w' := by
  refine vc_ulen c w _ ?_
  unfold lenU
  refine bsp_intro (fun h => ?_) (fun h => bsp_intro (fun h2 => ?_) (fun h2 => bsp_intro (fun h3 => ?_) (fun h3 => bsp_intro (fun h4 => ?_) (fun h4 => ?_))))
  · simp at h
    rw [if_pos (by omega)]; exact ⟨rfl, .refl _ _⟩
  · simp at h h2
    rw [if_neg (by omega), if_pos (by omega)]; exact ⟨rfl, .refl _ _⟩
  · simp at h h2 h3
    rw [if_neg (by omega), if_neg (by omega), if_pos (by omega)]; exact ⟨rfl, .refl _ _⟩
  · simp at h h2 h3 h4
    rw [if_neg (by omega), if_neg (by omega), if_neg (by omega), if_pos (by omega)]; exact ⟨rfl, .refl _ _⟩
  · simp at h h2 h3 h4
    rw [if_neg (by omega), if_neg (by omega), if_neg (by omega), if_neg (by omega)]; exact ⟨rfl, .refl _ _⟩
theorem ucont_any (f : Int) (i : Nat) (c : Int) (w : World) : Calls Tryz.prog 158 #[.int .u8 f, .int .i64 (i : Int), .int .u8 c] w fun e w' => e = .returned (.bool (conU f i c)) ∧ K0 w w' := by
  refine vc_ucont f i c w _ ?_
  unfold conU
  refine bsp_intro (fun h => ?_) (fun h => ?_)
  · have h : i = 1 := by simp at h; omega
    rw [if_pos h]
    refine bsp_intro (fun h => ?_) (fun h => bsp_intro (fun h2 => ?_) (fun h2 => bsp_intro (fun h3 => ?_) (fun h3 => bsp_intro (fun h4 => ?_) (fun h4 => ?_))))
    · rw [if_pos (by simpa using h)]; exact ⟨rfl, .refl _ _⟩
    · rw [if_neg (by simpa using h), if_pos (by simpa using h2)]; exact ⟨rfl, .refl _ _⟩
    · rw [if_neg (by simpa using h), if_neg (by simpa using h2), if_pos (by simpa using h3)]; exact ⟨rfl, .refl _ _⟩
    · rw [if_neg (by simpa using h), if_neg (by simpa using h2), if_neg (by simpa using h3), if_pos (by simpa using h4)]; exact ⟨rfl, .refl _ _⟩
    · rw [if_neg (by simpa using h), if_neg (by simpa using h2), if_neg (by simpa using h3), if_neg (by simpa using h4)]; exact ⟨rfl, .refl _ _⟩
  · have h : ¬ i = 1 := by simp at h; omega
    rw [if_neg h]
    exact ⟨rfl, .refl _ _⟩
theorem umeas_any (s : ByteArray) (w : World) (h0 : 0 < s.size) (hs : s.size ≤ 1073741824) : Calls Tryz.prog 135 #[.string s] w fun e w' => (∃ (k : Nat) (b : Bool), e = .returned (.tuple #[.int .i64 (k : Int), .bool b]) ∧ (b = true ↔ okU s) ∧ (b = true → k = lenU (at8 s 0)) ∧ (b = false → k ≤ s.size)) ∧ K0 w w' := by
  have hne : s.toList ≠ [] := fun e => by
    rw [ByteArray.toList_eq] at e
    have := congrArg List.length e
    simp at this
    rw [this] at h0
    exact absurd h0 (by decide)
  have hb := at8_bd s 0
  refine vc_umeas s w _ ⟨gimp_intro fun _ => ⟨by omega, by omega⟩, bsp_intro (fun _ => ?_) (fun h => by exfalso; simp at h; exact hne h)⟩
  refine ⟨(ulen_any (at8 s 0) hb w).mono fun e w1 ⟨he, k1⟩ => ⟨_, he, .of_k0 k1, bsp_intro (fun h => ?_) (fun h => ?_)⟩⟩
  · have h : lenU (at8 s 0) = 0 := by simp at h; omega
    exact ⟨⟨0, false, rfl, ⟨(fun h => by cases h), fun hk => absurd h hk.1⟩, (fun h => by cases h), fun _ => by omega⟩, k1⟩
  have hl : lenU (at8 s 0) ≠ 0 := by simp at h; omega
  refine ⟨⟨by omega, by omega⟩, ⟨(ulen_any (at8 s 0) hb w1).mono fun e w2 ⟨he, k2⟩ => ⟨_, he, .of_k0 k2, ?_⟩⟩⟩
  refine ⟨fun vs w' => ∃ x : Nat, vs = [.int .i64 (x : Int)] ∧ 1 ≤ x ∧ x ≤ lenU (at8 s 0) ∧ x ≤ s.size ∧ (∀ i, 1 ≤ i → i < x → conU (at8 s 0) i (at8 s i) = true) ∧ K0 w w',
    fun vs _ => (match vs with | .int _ a :: _ => s.size - a.toNat | _ => 0), ⟨1, rfl, by omega, by omega, by omega, fun i h1 h2 => by omega, k1.trans k2⟩, ?_⟩
  rintro y w3 ⟨x, hv, hx1, hxl, hxs, hall, k3⟩
  simp only [List.cons.injEq, Value.int.injEq, true_and, and_true] at hv
  subst hv
  have k4 := lenU_le (at8 s 0)
  refine ⟨gimp_intro fun _ => ⟨by omega, by omega⟩, gimp_intro fun hh => by simp at hh; omega, fun W hW => ?_⟩
  have kW : K0 w W := k3.trans (hW.kk rfl)
  rw [Int.toNat_natCast]
  refine bsp_intro (fun hh => ?_) (fun hh => ?_)
  · have hh : x < lenU (at8 s 0) ∧ x < s.size := by simp at hh; omega
    refine ⟨(ucont_any (at8 s 0) x (at8 s x) W).mono fun e w4 ⟨he, k4⟩ => ⟨_, he, .of_k0 k4, bsp_intro (fun h => ?_) (fun h => ?_)⟩⟩
    · have h : conU (at8 s 0) x (at8 s x) = true := by simpa using h
      rw [inc64 (by omega)]
      refine ⟨⟨x + 1, rfl, by omega, by omega, by omega, fun i h1 h2 => ?_, kW.trans k4⟩, by simp only [Int.toNat_natCast]; omega⟩
      rcases Nat.lt_or_ge i x with h3 | h3
      · exact hall i h1 h3
      · obtain rfl : i = x := by omega
        exact h
    · have h : conU (at8 s 0) x (at8 s x) = false := by simpa using h
      have hf : ((x : Int) == ((lenU (at8 s 0) : Nat) : Int)) = false := by simp; omega
      refine ⟨⟨x, false, by rw [hf], ⟨(fun h => by cases h), fun hk => ?_⟩, (fun h => by cases h), fun _ => hxs⟩, kW.trans k4⟩
      rw [hk.2.2 x hx1 hh.1] at h; cases h
  · have hh : lenU (at8 s 0) ≤ x ∨ s.size ≤ x := by simp at hh; omega
    refine ⟨.refl _ _, ⟨x, _, rfl, ⟨fun h => ?_, fun hk => ?_⟩, fun h => ?_, fun _ => hxs⟩, kW⟩
    · have h : x = lenU (at8 s 0) := by simp at h; omega
      exact ⟨hl, by omega, fun i h1 h2 => hall i h1 (by omega)⟩
    · have := hk.2.1
      simp; omega
    · simp at h; omega

theorem val_ext (s : ByteArray) (n m : Nat) (hm : m ≤ s.size) : ∀ k, k ≤ m → valU (s.extract 0 m) n k = valU s n k
  | 0, _ => rfl
  | 1, h => by
    show v0U n (at8 (s.extract 0 m) 0) = v0U n (at8 s 0)
    rw [T0.at8_extract s 0 m 0 (by omega) hm]
  | k + 2, h => by
    show 64 * valU (s.extract 0 m) n (k + 1) + at8 (s.extract 0 m) (k + 1) - 128 = 64 * valU s n (k + 1) + at8 s (k + 1) - 128
    rw [val_ext s n m hm (k + 1) (by omega), T0.at8_extract s 0 m (k + 1) (by omega) hm, Nat.zero_add]
theorem val_bd {s : ByteArray} (h : okU s) : ∀ k, 1 ≤ k → k ≤ lenU (at8 s 0) → 0 ≤ valU s (lenU (at8 s 0)) k ∧ valU s (lenU (at8 s 0)) k < 128 * 64 ^ (k - 1)
  | 0, h1, _ => by omega
  | 1, _, _ => by
    have hb := at8_bd s 0
    show 0 ≤ v0U (lenU (at8 s 0)) (at8 s 0) ∧ v0U (lenU (at8 s 0)) (at8 s 0) < 128 * 64 ^ 0
    unfold v0U
    rcases lenU_cases hb h.1 with ⟨e, h⟩ | ⟨e, h1, h2⟩ | ⟨e, h1, h2⟩ | ⟨e, h1, h2⟩ <;> rw [e] <;> simp <;> omega
  | k + 2, _, h2 => by
    have ih := val_bd h (k + 1) (by omega) (by omega)
    have hc := conU_val h (k + 1) (by omega) (by omega)
    show 0 ≤ 64 * valU s _ (k + 1) + at8 s (k + 1) - 128 ∧ 64 * valU s _ (k + 1) + at8 s (k + 1) - 128 < 128 * 64 ^ (k + 1)
    have e : (64 : Int) ^ (k + 1) = 64 ^ k * 64 := Int.pow_succ 64 k
    have e2 : k + 1 - 1 = k := rfl
    rw [e2] at ih
    have hp : (1 : Int) ≤ 64 ^ k := Int.pow_pos (by decide)
    rw [e]
    generalize (64 : Int) ^ k = P at ih hp
    omega
theorem uval_any (s : ByteArray) (w : World) (h : okU s) (hs : s.size = lenU (at8 s 0)) : Calls Tryz.prog 136 #[.string s] w fun e w' => e = .returned (.int .i32 (valU s (lenU (at8 s 0)) (lenU (at8 s 0)))) ∧ K0 w w' := by
  have hb := at8_bd s 0
  have h4 := lenU_le (at8 s 0)
  have hl := h.1
  have inv : ∀ x : Nat, 1 ≤ x → x < s.size → IntKind.i32.wrap ((BitVec.ofInt 32 (IntKind.i32.wrap (valU s s.size x * 2 ^ 6)) ||| BitVec.ofInt 32 (IntKind.i32.wrap (IntKind.u8.wrap ((BitVec.ofInt 8 (at8 s x) &&& BitVec.ofInt 8 63).toNat : Nat)))).toNat : Nat) = valU s s.size (x + 1) := fun x h1 h2 => by
    rw [hs] at h2 ⊢
    have hc := conU_val h x h1 h2
    have hv := val_bd h x h1 (by omega)
    have hv2 : valU s (lenU (at8 s 0)) x < 16777216 := by
      obtain rfl | rfl | rfl : x = 1 ∨ x = 2 ∨ x = 3 := by omega
      · have := hv.2; simp at this; omega
      · have := hv.2; simp at this; omega
      · have := hv.2; simp at this; omega
    rw [or6 ⟨hv.1, hv2⟩ hc]
    cases x with
    | zero => omega
    | succ x => rfl
  have loop : ∀ r0 : Int, r0 = valU s s.size 1 → ∃ (I : List Value → World → Prop) (m : List Value → World → Nat), I [.int .i64 1, .int .i32 r0] w ∧ ∀ (x x_1 : Int) (w' : World), I [.int .i64 x, .int .i32 x_1] w' →
      bsp (decide (x < (s.size : Nat))) ((0 ≤ x ∧ x < (s.size : Nat)) ∧ I [.int .i64 (IntKind.i64.wrap (x + 1)), .int .i32 (IntKind.i32.wrap ((BitVec.ofInt 32 (IntKind.i32.wrap (x_1 * 2 ^ 6)) ||| BitVec.ofInt 32 (IntKind.i32.wrap (IntKind.u8.wrap ((BitVec.ofInt 8 (at8 s x.toNat) &&& BitVec.ofInt 8 63).toNat : Nat)))).toNat : Nat))] w' ∧ m [.int .i64 (IntKind.i64.wrap (x + 1)), .int .i32 (IntKind.i32.wrap ((BitVec.ofInt 32 (IntKind.i32.wrap (x_1 * 2 ^ 6)) ||| BitVec.ofInt 32 (IntKind.i32.wrap (IntKind.u8.wrap ((BitVec.ofInt 8 (at8 s x.toNat) &&& BitVec.ofInt 8 63).toNat : Nat)))).toNat : Nat))] w' < m [.int .i64 x, .int .i32 x_1] w') (Ending.returned (.int .i32 x_1) = .returned (.int .i32 (valU s (lenU (at8 s 0)) (lenU (at8 s 0)))) ∧ K0 w w') := fun r0 hr0 => by
    refine ⟨fun vs w' => ∃ x : Nat, vs = [.int .i64 (x : Int), .int .i32 (valU s s.size x)] ∧ 1 ≤ x ∧ x ≤ s.size ∧ w' = w, fun vs _ => (match vs with | .int _ a :: _ => s.size - a.toNat | _ => 0), ⟨1, by rw [hr0]; rfl, by omega, by omega, rfl⟩, ?_⟩
    rintro y r w' ⟨x, hv, h1, h2, rfl⟩
    simp only [List.cons.injEq, Value.int.injEq, true_and, and_true] at hv
    obtain ⟨rfl, rfl⟩ := hv
    rw [Int.toNat_natCast]
    refine bsp_intro (fun hlt => ?_) (fun hge => ?_)
    · have hlt : x < s.size := by simp at hlt; omega
      rw [inv x h1 hlt, inc64 (by omega)]
      exact ⟨⟨by omega, by omega⟩, ⟨x + 1, rfl, by omega, hlt, rfl⟩, by simp only [Int.toNat_natCast]; omega⟩
    · have : x = s.size := by simp at hge; omega
      subst this
      exact ⟨by rw [← hs], .refl _ _⟩
  refine vc_uval s w _ ⟨⟨by omega, by omega⟩, bsp_intro (fun h1 => ?_) (fun h1 => ?_)⟩
  · have h1 : 1 < s.size := by simp at h1; omega
    refine loop _ ?_
    show _ = v0U s.size (at8 s 0)
    rw [Int.toNat_natCast]
    exact msk hb hs.symm (by omega)
  · have h1 : s.size = 1 := by simp at h1; omega
    refine loop _ ?_
    show _ = v0U s.size (at8 s 0)
    have h2 : lenU (at8 s 0) = 1 := by omega
    rw [h1, wr32 (by omega)]
    rfl
theorem udec_any (s : ByteArray) (w : World) (h0 : 0 < s.size) (hs : s.size ≤ 1073741824) : Calls Tryz.prog 115 #[.string s] w fun e w' =>
    (match u8R s with | some (r, n) => e = .returned (.tuple #[.int .i32 r, .int .i64 (n : Nat), .int .i64 0]) | none => ∃ er : Int, er ≠ 0 ∧ e = .returned (.tuple #[.int .i32 0, .int .i64 0, .int .i64 er])) ∧ K0 w w' := by
  have hne : (s.toList == []) = false := by
    rw [beq_eq_false_iff_ne]
    intro e
    rw [ByteArray.toList_eq] at e
    have := congrArg List.length e
    simp at this
    rw [this] at h0
    exact absurd h0 (by decide)
  refine vc_udec s w _ (bsp_intro (fun h => by rw [hne] at h; cases h) (fun _ => ⟨(umeas_any s w h0 hs).mono fun e w1 ⟨⟨k, b, he, hb, hk, hk2⟩, k1⟩ => ⟨_, _, he, .of_k0 k1, bsp_intro (fun h => ?_) (fun h => ?_)⟩⟩))
  · have hok := hb.1 h
    have hkl := hk h
    subst hkl
    have hu : u8R s = some (valU s (lenU (at8 s 0)) (lenU (at8 s 0)), lenU (at8 s 0)) := if_pos hok
    rw [hu]
    have hle := hok.2.1
    have hl1 := hok.1
    have hsz : (s.extract 0 (lenU (at8 s 0))).size = lenU (at8 s 0) := by rw [ByteArray.size_extract]; omega
    have e0 : at8 (s.extract 0 (lenU (at8 s 0))) 0 = at8 s 0 := by rw [T0.at8_extract s 0 _ 0 (by omega) hle]
    have hok2 : okU (s.extract 0 (lenU (at8 s 0))) := by
      refine ⟨by rw [e0]; exact hl1, by rw [e0, hsz]; exact Nat.le_refl _, fun i h1 h2 => ?_⟩
      rw [e0] at h2 ⊢
      rw [T0.at8_extract s 0 _ i (by omega) hle, Nat.zero_add]
      exact hok.2.2 i h1 h2
    rw [Int.toNat_natCast]
    refine ⟨⟨by omega, by omega⟩, ⟨(uval_any _ w1 hok2 (by rw [hsz, e0])).mono fun e w2 ⟨he, k2⟩ => ⟨_, he, .of_k0 k2, ?_, k1.trans k2⟩⟩⟩
    rw [e0, val_ext s _ _ hle _ (Nat.le_refl _)]
  · have hno : ¬ okU s := fun hk => by rw [hb.2 hk] at h; cases h
    have hu : u8R s = none := if_neg hno
    rw [hu]
    refine bsp_intro (fun _ => ⟨⟨6, by decide, rfl⟩, k1⟩) (fun _ => bsp_intro (fun _ => ⟨⟨23, by decide, rfl⟩, k1⟩) (fun _ => ⟨⟨3, by decide, rfl⟩, k1⟩))

end Go.Proofs.YtfacflbmlfbeeaaGreatDoor

/- Chapter 39: the code points of a text; the contracts of utf8.Check, Valid, isControl and of the reference's First, All, Control. Texts that are not too long. -/
namespace Go.Proofs.YtfacflbmlfbeeaaGreatDoor
open Go.RowKit

/-- From an offset on come the code points l; b: up to the end. -/
inductive RN (s : ByteArray) : Nat → List Int → Bool → Prop
  | done {at_ : Nat} (h : s.size ≤ at_) : RN s at_ [] true
  | bad {at_ : Nat} (h : at_ < s.size) (hu : u8R (s.extract at_ s.size) = none) : RN s at_ [] false
  | step {at_ : Nat} {r : Int} {n : Nat} {l : List Int} {b : Bool} (h : at_ < s.size) (hu : u8R (s.extract at_ s.size) = some (r, n)) (hr : RN s (at_ + n) l b) : RN s at_ (r :: l) b
theorem ext_size (s : ByteArray) (a : Nat) : (s.extract a s.size).size = s.size - a := by rw [ByteArray.size_extract]; omega
theorem rn_ex (s : ByteArray) : ∀ (k a : Nat), s.size - a ≤ k → ∃ l b, RN s a l b ∧ l.length ≤ s.size - a
  | 0, a, h => ⟨[], true, .done (by omega), by simp⟩
  | k + 1, a, h => by
    by_cases ha : s.size ≤ a
    · exact ⟨[], true, .done ha, by simp⟩
    · cases hu : u8R (s.extract a s.size) with
      | none => exact ⟨[], false, .bad (by omega) hu, by simp⟩
      | some p =>
        obtain ⟨r, n⟩ := p
        have hn := u8R_pos hu
        rw [ext_size] at hn
        obtain ⟨l, b, h1, h2⟩ := rn_ex s k (a + n) (by omega)
        exact ⟨r :: l, b, .step (by omega) hu h1, by simp; omega⟩
theorem RN.det {s : ByteArray} {a : Nat} {l l' : List Int} {b b' : Bool} (h : RN s a l b) (h' : RN s a l' b') : l = l' ∧ b = b' := by
  induction h generalizing l' b' with
  | done h1 =>
    cases h' with
    | done => exact ⟨rfl, rfl⟩
    | bad h2 => omega
    | step h2 => omega
  | bad h1 hu =>
    cases h' with
    | done h2 => omega
    | bad => exact ⟨rfl, rfl⟩
    | step h2 hu2 => rw [hu] at hu2; cases hu2
  | step h1 hu hr ih =>
    cases h' with
    | done h2 => omega
    | bad h2 hu2 => rw [hu] at hu2; cases hu2
    | step h2 hu2 hr2 =>
      rw [hu] at hu2
      cases hu2
      obtain ⟨e1, e2⟩ := ih hr2
      rw [e1, e2]
      exact ⟨rfl, rfl⟩
noncomputable def rnL (s : ByteArray) : List Int := (rn_ex s s.size 0 (by omega)).choose
noncomputable def rnB (s : ByteArray) : Bool := (rn_ex s s.size 0 (by omega)).choose_spec.choose
theorem rn_spec (s : ByteArray) : RN s 0 (rnL s) (rnB s) ∧ (rnL s).length ≤ s.size := by
  have := (rn_ex s s.size 0 (by omega)).choose_spec.choose_spec
  exact ⟨this.1, by have := this.2; unfold rnL; omega⟩
def ctlB (r : Int) : Bool := decide (r ≤ 31) || decide (r ≥ 127) && decide (r ≤ 159) || r == 8232 || r == 8233
/-- Whether a text can be printed. -/
noncomputable def prtB (s : ByteArray) : Bool := rnB s && !(rnL s).any ctlB
theorem uctl_any (r : Int) (w : World) : Calls Tryz.prog 93 #[.int .i32 r] w fun e w' => e = .returned (.bool (ctlB r)) ∧ K0 w w' := vc_uctl r w _ ⟨rfl, .refl _ _⟩
theorem xctl_any (r : Int) (w : World) : Calls Tryz.prog 59 #[.int .i64 r] w fun e w' => e = .returned (.bool (ctlB r)) ∧ K0 w w' := by
  refine vc_xctl r w _ ⟨?_, .refl _ _⟩
  have h : decide (r < 32) = decide (r ≤ 31) := by rw [Bool.eq_iff_iff]; simp; omega
  rw [h]; rfl
theorem ucheck_any (s : ByteArray) (w : World) (hs : s.size ≤ 1073741824) : Calls Tryz.prog 113 #[.string s] w fun e w' => (∃ a er : Int, e = .returned (.tuple #[.int .i64 a, .int .i64 er]) ∧ (er = 0 ↔ rnB s = true)) ∧ K0 w w' := by
  have hsp := (rn_spec s).1
  generalize rnB s = B at hsp
  refine vc_ucheck s w _ ?_
  refine ⟨fun vs w' => ∃ (x : Nat) (l : List Int), vs = [.int .i64 (x : Int)] ∧ RN s x l B ∧ x ≤ s.size ∧ K0 w w', fun vs _ => (match vs with | .int _ a :: _ => s.size - a.toNat | _ => 0), ⟨0, _, rfl, hsp, by omega, .refl _ _⟩, ?_⟩
  rintro y w1 ⟨x, l, hv, hR, hx, k1⟩
  simp only [List.cons.injEq, Value.int.injEq, true_and, and_true] at hv
  subst hv
  rw [Int.toNat_natCast]
  refine bsp_intro (fun hlt => ?_) (fun hge => ?_)
  · have hlt : x < s.size := by simp at hlt; omega
    refine ⟨⟨by omega, by omega⟩, ⟨(udec_any (s.extract x s.size) w1 (by rw [ext_size]; omega) (by rw [ext_size]; omega)).mono fun e w2 ⟨hd, k2⟩ => ?_⟩⟩
    cases hR with
    | done h => omega
    | bad h hu =>
      rw [hu] at hd
      obtain ⟨er, he0, he⟩ := hd
      refine ⟨_, _, _, he, .of_k0 k2, bsp_intro (fun _ => ⟨⟨_, er, rfl, ⟨fun h => absurd h he0, fun h => by cases h⟩⟩, k1.trans k2⟩) (fun h => by exfalso; simp at h; exact he0 h)⟩
    | step h hu hr =>
      rw [hu] at hd
      have hn := u8R_pos hu
      rw [ext_size] at hn
      refine ⟨_, _, _, hd, .of_k0 k2, bsp_intro (fun h => by simp at h) (fun _ => ?_)⟩
      rw [wr64 (by omega) (by omega)]
      exact ⟨⟨_, _, by rw [← Int.natCast_add], hr, by omega, k1.trans k2⟩, by show s.size - _ < _; simp only [Int.toNat_natCast]; omega⟩
  · have hge : s.size ≤ x := by simp at hge; omega
    refine ⟨⟨0, 0, rfl, ⟨fun _ => ?_, fun _ => rfl⟩⟩, k1⟩
    have := (RN.det hR (.done hge)).2
    exact this
theorem uvalid_any (s : ByteArray) (w : World) (hs : s.size ≤ 1073741824) : Calls Tryz.prog 91 #[.string s] w fun e w' => e = .returned (.bool (rnB s)) ∧ K0 w w' :=
  vc_uvalid s w _ ⟨(ucheck_any s w hs).mono fun e w1 ⟨⟨a, er, he, hb⟩, k1⟩ => ⟨_, _, he, .of_k0 k1, by
    have : (er == 0) = rnB s := by
      cases h : rnB s with
      | true => rw [beq_iff_eq]; exact hb.2 h
      | false => rw [beq_eq_false_iff_ne]; intro e; rw [hb.1 e] at h; cases h
    rw [this], k1⟩⟩
theorem urunes_any (s : ByteArray) (w : World) : Calls Tryz.prog 92 #[.string s] w fun e w' => (∃ Bs, e = .returned (.func (.func 114) #[] #[.pointer (some ⟨Bs, 0, none⟩)]) ∧ w'.cell? ⟨Bs, 0, none⟩ = some (.string s) ∧ Bs < w'.heap.size) ∧ K0 w w' :=
  vc_urunes s w _ (fun n _ hW => ⟨⟨n, rfl, cell_at (hW.cells 0 rfl) rfl, block_lt (hW.cells 0 rfl)⟩, hW.kk rfl⟩)

/-! ### The reference -/
theorem xlead_any (c : Int) (hc : 0 ≤ c ∧ c ≤ 255) (w : World) : Calls Tryz.prog 137 #[.int .u8 c] w fun e w' => e = .returned (.tuple #[.int .i64 (leadN c : Nat), .int .i64 (if leadN c = 0 then 0 else v0U (leadN c) c)]) ∧ K0 w w' := by
  refine vc_xlead c w _ ?_
  unfold VC_xlead
  rw [wr64 (x := c) (by omega) (by omega), wr64 (x := c - 192) (by omega) (by omega), wr64 (x := c - 224) (by omega) (by omega), wr64 (x := c - 240) (by omega) (by omega)]
  unfold leadN
  refine bsp_intro (fun h => ?_) (fun h => bsp_intro (fun h2 => ?_) (fun h2 => bsp_intro (fun h3 => ?_) (fun h3 => bsp_intro (fun h4 => ?_) (fun h4 => ?_))))
  · simp at h
    rw [if_pos h]; exact ⟨rfl, .refl _ _⟩
  · simp at h h2
    rw [if_neg (by omega), if_pos (by omega)]; exact ⟨rfl, .refl _ _⟩
  · simp at h h2 h3
    rw [if_neg (by omega), if_neg (by omega), if_pos (by omega)]; exact ⟨rfl, .refl _ _⟩
  · simp at h h2 h3 h4
    rw [if_neg (by omega), if_neg (by omega), if_neg (by omega), if_pos (by omega)]; exact ⟨rfl, .refl _ _⟩
  · simp at h h2 h3 h4
    rw [if_neg (by omega), if_neg (by omega), if_neg (by omega), if_neg (by omega)]; exact ⟨rfl, .refl _ _⟩
theorem xleast_any (n : Nat) (h1 : 1 ≤ n) (hn : n ≤ 4) (w : World) : Calls Tryz.prog 138 #[.int .i64 (n : Int)] w fun e w' => e = .returned (.int .i64 (leastU n)) ∧ K0 w w' := by
  refine vc_xleast n w _ (fun n1 W hW => ⟨⟨by omega, by omega⟩, leastU n, ?_, rfl, hW.kk rfl⟩)
  rw [Int.toNat_natCast]
  obtain rfl | rfl | rfl | rfl : n = 1 ∨ n = 2 ∨ n = 3 ∨ n = 4 := by omega
  all_goals exact cell_at (hW.cells 0 rfl) rfl
theorem xmost_any (n : Nat) (h1 : 1 ≤ n) (hn : n ≤ 4) (w : World) : Calls Tryz.prog 139 #[.int .i64 (n : Int)] w fun e w' => e = .returned (.int .i64 (mostU n)) ∧ K0 w w' := by
  refine vc_xmost n w _ (fun n1 W hW => ⟨⟨by omega, by omega⟩, mostU n, ?_, rfl, hW.kk rfl⟩)
  rw [Int.toNat_natCast]
  obtain rfl | rfl | rfl | rfl : n = 1 ∨ n = 2 ∨ n = 3 ∨ n = 4 := by omega
  all_goals exact cell_at (hW.cells 0 rfl) rfl
theorem leadN_le (c : Int) : leadN c ≤ 4 := by unfold leadN; (repeat' split) <;> omega

end Go.Proofs.YtfacflbmlfbeeaaGreatDoor

/- Chapter 39: the contracts of the reference's Begins, First, All. Texts that are not too long. -/
namespace Go.Proofs.YtfacflbmlfbeeaaGreatDoor
open Go.RowKit

theorem v0_bd : ∀ c : Fin 256, leadN (c.val : Int) ≠ 0 → 0 ≤ v0U (leadN (c.val : Int)) (c.val : Int) ∧ v0U (leadN (c.val : Int)) (c.val : Int) < 128 := by decide +kernel
theorem valK_bd {s : ByteArray} (h0 : leadN (at8 s 0) ≠ 0) : ∀ k, 1 ≤ k → (∀ i, 1 ≤ i → i < k → 128 ≤ at8 s i ∧ at8 s i ≤ 191) → 0 ≤ valU s (leadN (at8 s 0)) k ∧ valU s (leadN (at8 s 0)) k < 128 * 64 ^ (k - 1)
  | 0, h, _ => by omega
  | 1, _, _ => by
    have hb := at8_bd s 0
    have := v0_bd ⟨(at8 s 0).toNat, by omega⟩
    have e : (((at8 s 0).toNat : Nat) : Int) = at8 s 0 := by omega
    simp only [e] at this
    have h := this h0
    show 0 ≤ v0U _ _ ∧ v0U _ _ < 128 * 64 ^ 0
    simp only [Int.pow_zero]
    omega
  | k + 2, _, hc => by
    have ih := valK_bd h0 (k + 1) (by omega) (fun i h1 h2 => hc i h1 (by omega))
    have hc := hc (k + 1) (by omega) (by omega)
    show 0 ≤ 64 * valU s _ (k + 1) + at8 s (k + 1) - 128 ∧ 64 * valU s _ (k + 1) + at8 s (k + 1) - 128 < 128 * 64 ^ (k + 1)
    have e : (64 : Int) ^ (k + 1) = 64 ^ k * 64 := Int.pow_succ 64 k
    have e2 : k + 1 - 1 = k := rfl
    rw [e2] at ih
    have hp : (1 : Int) ≤ 64 ^ k := Int.pow_pos (by decide)
    rw [e]
    generalize (64 : Int) ^ k = P at ih hp
    omega
theorem pow64 {k : Nat} (h : k ≤ 4) : (1 : Int) ≤ 64 ^ k ∧ (64 : Int) ^ k ≤ 16777216 := by
  obtain rfl | rfl | rfl | rfl | rfl : k = 0 ∨ k = 1 ∨ k = 2 ∨ k = 3 ∨ k = 4 := by omega
  all_goals decide
set_option maxHeartbeats 1000000 in
theorem xbegins_any (s : ByteArray) (w : World) (hs0 : 0 < s.size) (hs : s.size ≤ 1073741824) : Calls Tryz.prog 116 #[.string s] w fun e w' => (∃ (b : Bool) (x y : Int), e = .returned (.tuple #[.bool b, .int .i64 x, .int .i64 y]) ∧ (b = true ↔ begP s) ∧ (b = true → x = (leadN (at8 s 0) : Nat) ∧ y = valU s (leadN (at8 s 0)) s.size)) ∧ K0 w w' := by
  have hb := at8_bd s 0
  have hl4 := leadN_le (at8 s 0)
  refine vc_xbegins s w _ ⟨⟨by omega, by omega⟩, ⟨(xlead_any (at8 s 0) hb w).mono fun e w1 ⟨he, k1⟩ => ⟨_, _, he, .of_k0 k1, bsp_intro (fun h => ?_) (fun h => ?_)⟩⟩⟩
  · refine ⟨⟨false, 0, 0, rfl, ⟨(fun h => by cases h), fun hk => ?_⟩, fun h => by cases h⟩, k1⟩
    have h1 := hk.1
    have h2 := hk.2.1
    simp at h
    omega
  have hh : leadN (at8 s 0) ≠ 0 ∧ s.size ≤ leadN (at8 s 0) := by simp at h; omega
  rw [if_neg hh.1]
  refine ⟨fun vs w' => ∃ x : Nat, vs = [.int .i64 (x : Int), .int .i64 (valU s (leadN (at8 s 0)) x)] ∧ 1 ≤ x ∧ x ≤ s.size ∧ (∀ i, 1 ≤ i → i < x → 128 ≤ at8 s i ∧ at8 s i ≤ 191) ∧ K0 w w',
    fun vs _ => (match vs with | .int _ a :: _ => s.size - a.toNat | _ => 0), ⟨1, rfl, by omega, by omega, (fun i h1 h2 => by omega), k1⟩, ?_⟩
  rintro y z w2 ⟨x, hv, hx1, hxs, hall, k2⟩
  simp only [List.cons.injEq, Value.int.injEq, true_and, and_true] at hv
  obtain ⟨rfl, rfl⟩ := hv
  rw [Int.toNat_natCast]
  have hvb := valK_bd hh.1 x hx1 hall
  have hpw := pow64 (k := x - 1) (by omega)
  refine bsp_intro (fun hlt => ?_) (fun hge => ?_)
  · have hlt : x < s.size := by simp at hlt; omega
    have hbx := at8_bd s x
    refine ⟨⟨by omega, by omega⟩, gimp_intro fun _ => ⟨by omega, by omega⟩, bsp_intro (fun hc => ?_) (fun hc => ?_)⟩
    · refine ⟨⟨false, 0, 0, rfl, ⟨(fun h => by cases h), fun hk => ?_⟩, fun h => by cases h⟩, k2⟩
      have := hk.2.2.1 x hx1 hlt
      simp at hc
      omega
    · have hc : 128 ≤ at8 s x ∧ at8 s x ≤ 191 := by simp at hc; omega
      refine ⟨⟨by omega, by omega⟩, ?_⟩
      generalize hP : (64 : Int) ^ (x - 1) = P at hvb hpw
      have e1 : IntKind.i64.wrap (IntKind.i64.wrap (IntKind.i64.wrap (64 * valU s (leadN (at8 s 0)) x) + IntKind.i64.wrap (at8 s x)) - 128) = valU s (leadN (at8 s 0)) (x + 1) := by
        rw [wr64 (x := 64 * valU s (leadN (at8 s 0)) x) (by omega) (by omega), wr64 (x := at8 s x) (by omega) (by omega), wr64 (x := 64 * valU s (leadN (at8 s 0)) x + at8 s x) (by omega) (by omega), wr64 (by omega) (by omega)]
        cases x with
        | zero => omega
        | succ x => rfl
      rw [e1, inc64 (by omega)]
      refine ⟨⟨x + 1, rfl, by omega, hlt, fun i h1 h2 => ?_, k2⟩, by simp only [Int.toNat_natCast]; omega⟩
      rcases Nat.lt_or_ge i x with h3 | h3
      · exact hall i h1 h3
      · obtain rfl : i = x := by omega
        exact hc
  · have : x = s.size := by simp at hge; omega
    subst this
    have hcont : contS s := hall
    refine ⟨fun vs w' => ∃ (x : Nat) (hi lo : Int), vs = [.int .i64 (x : Int), .int .i64 hi, .int .i64 lo] ∧ s.size ≤ x ∧ x ≤ leadN (at8 s 0) ∧ loU lo (leadN (at8 s 0) - x) = loU (valU s (leadN (at8 s 0)) s.size) (leadN (at8 s 0) - s.size) ∧ hiU hi (leadN (at8 s 0) - x) = hiU (valU s (leadN (at8 s 0)) s.size) (leadN (at8 s 0) - s.size) ∧
        (0 ≤ lo ∧ lo < 128 * 64 ^ (x - 1)) ∧ (0 ≤ hi ∧ hi < 128 * 64 ^ (x - 1)) ∧ K0 w w',
      fun vs _ => (match vs with | .int _ a :: _ => leadN (at8 s 0) - a.toNat | _ => 0), ⟨s.size, _, _, rfl, by omega, hh.2, rfl, rfl, hvb, hvb, k2⟩, ?_⟩
    rintro y1 hi lo w3 ⟨x, hi', lo', hv, h1, h2, h3, h4, h5, h6, k3⟩
    simp only [List.cons.injEq, Value.int.injEq, true_and, and_true] at hv
    obtain ⟨rfl, rfl, rfl⟩ := hv
    have hpw2 := pow64 (k := x - 1) (by omega)
    refine bsp_intro (fun hlt => ?_) (fun hge => ?_)
    · have hlt : x < leadN (at8 s 0) := by simp at hlt; omega
      have e : (64 : Int) ^ (x + 1 - 1) = 64 ^ (x - 1) * 64 := by
        rw [show x + 1 - 1 = (x - 1) + 1 by omega]; exact Int.pow_succ 64 _
      have eN : leadN (at8 s 0) - x = (leadN (at8 s 0) - (x + 1)) + 1 := by omega
      rw [eN] at h3 h4
      have h3 : loU (64 * lo) (leadN (at8 s 0) - (x + 1)) = _ := h3
      have h4 : hiU (64 * hi + 63) (leadN (at8 s 0) - (x + 1)) = _ := h4
      generalize hP : (64 : Int) ^ (x - 1) = P at h5 h6 hpw2 e
      rw [wr64 (x := 64 * hi) (by omega) (by omega), wr64 (x := 64 * hi + 63) (by omega) (by omega), wr64 (x := 64 * lo) (by omega) (by omega), inc64 (by omega)]
      refine ⟨⟨x + 1, 64 * hi + 63, 64 * lo, rfl, by omega, hlt, h3, h4, ?_, ?_, k3⟩, by simp only [Int.toNat_natCast]; omega⟩
      · rw [e]; omega
      · rw [e]; omega
    · have : x = leadN (at8 s 0) := by simp at hge; omega
      subst this
      rw [Nat.sub_self] at h3 h4
      have h3 : lo = _ := h3
      have h4 : hi = _ := h4
      refine ⟨(xleast_any _ (by omega) hl4 w3).mono fun e w4 ⟨he, k4⟩ => ⟨_, he, .of_k0 k4, ⟨(xmost_any _ (by omega) hl4 w4).mono fun e w5 ⟨he, k5⟩ => ⟨_, he, .of_k0 k5, ?_⟩⟩⟩⟩
      have k05 := (k3.trans k4).trans k5
      rw [h3, h4]
      refine bsp_intro (fun hbd => ?_) (fun hbd => ?_)
      · refine ⟨⟨false, 0, 0, rfl, ⟨(fun h => by cases h), fun hk => ?_⟩, fun h => by cases h⟩, k05⟩
        have := hk.2.2.2
        unfold badU at this
        rw [hbd] at this; cases this
      · exact ⟨⟨true, _, _, rfl, ⟨fun _ => ⟨hh.1, hh.2, hcont, hbd⟩, fun _ => rfl⟩, fun _ => ⟨rfl, rfl⟩⟩, k05⟩
theorem xfirst_any (s : ByteArray) (w : World) (h0 : 0 < s.size) (hs : s.size ≤ 1073741824) : Calls Tryz.prog 96 #[.string s] w fun e w' =>
    (match u8R s with | some (r, n) => e = .returned (.tuple #[.int .i64 r, .int .i64 (n : Nat), .int .i64 0]) | none => ∃ er : Int, er ≠ 0 ∧ e = .returned (.tuple #[.int .i64 0, .int .i64 0, .int .i64 er])) ∧ K0 w w' := by
  have hb := at8_bd s 0
  have s1 : (s.extract 0 1).size = 1 := by rw [ByteArray.size_extract]; omega
  have e1 : at8 (s.extract 0 1) 0 = at8 s 0 := by rw [T0.at8_extract s 0 1 0 (by omega) (by omega)]
  refine vc_xfirst s w _ ⟨⟨by omega, by omega⟩, ⟨(xbegins_any (s.extract 0 1) w (by omega) (by omega)).mono fun e w1 ⟨⟨b, x, y, he, hbe, hxy⟩, k1⟩ => ⟨_, _, _, he, .of_k0 k1, ?_⟩⟩⟩
  rw [beg_one s1, e1] at hbe
  rw [e1] at hxy
  refine bsp_intro (fun h => ?_) (fun h => ?_)
  · have h : b = false := by simpa using h
    have hno : ¬ okU s := fun hk => by rw [hbe.2 hk.1] at h; cases h
    rw [show u8R s = none from if_neg hno]
    exact ⟨⟨6, by decide, rfl⟩, k1⟩
  have h : b = true := by simpa using h
  have hl := hbe.1 h
  obtain ⟨rfl, _⟩ := hxy h
  have hll := lead_len hb hl
  rw [hll]
  refine bsp_intro (fun h2 => ?_) (fun h2 => ?_)
  · have h2 : lenU (at8 s 0) ≤ s.size := by simp at h2; omega
    have hsz : (s.extract 0 (lenU (at8 s 0))).size = lenU (at8 s 0) := by rw [ByteArray.size_extract]; omega
    have e0 : at8 (s.extract 0 (lenU (at8 s 0))) 0 = at8 s 0 := by rw [T0.at8_extract s 0 _ 0 (by omega) h2]
    have hok2 : okU (s.extract 0 (lenU (at8 s 0))) ↔ okU s := by
      unfold okU
      rw [e0, hsz]
      refine ⟨fun ⟨a1, _, a3⟩ => ⟨a1, h2, fun i i1 i2 => ?_⟩, fun ⟨a1, _, a3⟩ => ⟨a1, Nat.le_refl _, fun i i1 i2 => ?_⟩⟩
      · have := a3 i i1 i2
        rw [T0.at8_extract s 0 _ i (by omega) h2, Nat.zero_add] at this
        exact this
      · rw [T0.at8_extract s 0 _ i (by omega) h2, Nat.zero_add]
        exact a3 i i1 i2
    rw [Int.toNat_natCast]
    refine ⟨⟨by omega, by omega⟩, ⟨(xbegins_any (s.extract 0 (lenU (at8 s 0))) w1 (by omega) (by omega)).mono fun e w2 ⟨⟨b2, x2, y2, he, hbe2, hxy2⟩, k2⟩ => ⟨_, _, _, he, .of_k0 k2, ?_⟩⟩⟩
    rw [beg_full (by rw [e0]; exact hl) (by rw [hsz, e0]), hok2] at hbe2
    rw [e0, hll, hsz, val_ext s _ _ h2 _ (Nat.le_refl _)] at hxy2
    refine bsp_intro (fun h3 => ?_) (fun h3 => ?_)
    · rw [show u8R s = some (valU s (lenU (at8 s 0)) (lenU (at8 s 0)), lenU (at8 s 0)) from if_pos (hbe2.1 h3), (hxy2 h3).2]
      exact ⟨rfl, k1.trans k2⟩
    · have hno : ¬ okU s := fun hk => by rw [hbe2.2 hk] at h3; cases h3
      rw [show u8R s = none from if_neg hno]
      exact ⟨⟨3, by decide, rfl⟩, k1.trans k2⟩
  · have h2 : s.size < lenU (at8 s 0) := by simp at h2; omega
    have hno : ¬ okU s := fun hk => by have := hk.2.1; omega
    rw [show u8R s = none from if_neg hno]
    refine ⟨(xbegins_any s w1 h0 hs).mono fun e w2 ⟨⟨b2, x2, y2, he, _, _⟩, k2⟩ => ⟨_, _, _, he, .of_k0 k2, bsp_intro (fun _ => ⟨⟨23, by decide, rfl⟩, k1.trans k2⟩) (fun _ => ⟨⟨3, by decide, rfl⟩, k1.trans k2⟩)⟩⟩

end Go.Proofs.YtfacflbmlfbeeaaGreatDoor

/- Chapter 39: the contract of utf8.Printable, a range over a function. Texts that are not too long. -/
namespace Go.Proofs.YtfacflbmlfbeeaaGreatDoor
open Go.RowKit Go.Shelf

attribute [local go_sem] Oper.semAt_some

set_option maxRecDepth 100000 in
set_option maxHeartbeats 4000000 in
theorem runes1_in (n : Nat) (hn : 2 ≤ n) (l Bs n₀ : Nat) (s : ByteArray) (hs : s.size ≤ 1073741824) (J Jx : List (Int × Int) → World → Prop)
    (hY : ∀ pre x W, J pre W → pre.length < s.size → YieldAt Fence.wide (n - 1) Tryz.prog l #[.int .i64 x.1, .int .i32 x.2] W fun e W' =>
      (e = .returned (.bool true) ∧ J (pre ++ [x]) W' ∧ Below n₀ W W') ∨ (e = .returned (.bool false) ∧ Jx (pre ++ [x]) W'))
    (W : World) (hJ : AbidesFrom W.heap.size J) (hBs : W.cell? ⟨Bs, 0, none⟩ = some (.string s)) (hB : Bs < n₀) (hn₀ : n₀ ≤ W.heap.size) (h0 : J [] W) :
    CallsIn Fence.wide n Tryz.prog 114 #[.func (.yield l) #[] #[], .pointer (some ⟨Bs, 0, none⟩)] W fun e W' => (∃ v, e = .returned v) ∧
      ((∃ ys : List (Int × Int), ys.map (·.2) = rnL s ∧ J ys W') ∨ (∃ pre : List (Int × Int), pre.map (·.2) <+: rnL s ∧ Jx pre W')) := by
  have hsp := rn_spec s
  generalize rnL s = L at hsp ⊢
  generalize rnB s = B at hsp
  refine callsIn_of_wp Tryz.func114 rfl trivial ?_ rfl
  simp only [Tryz.ntmps114, List.size_toArray, List.length_cons, List.length_nil, Nat.reduceAdd, Nat.reduceSub, Array.replicate_succ, Array.replicate_zero, List.push_toArray, List.append_toArray, List.nil_append, List.cons_append]
  gi_wp2
  gi_loopw [3] (fun i wr => ∃ (x : Nat) (pre : List (Int × Int)) (l' : List Int), i = .int .i64 (x : Int) ∧ pre.map (·.2) ++ l' = L ∧ RN s x l' B ∧ pre.length ≤ x ∧ x ≤ s.size ∧ J pre wr ∧ Below n₀ W wr ∧ W.heap.size ≤ wr.heap.size)
    (fun i _ => s.size - (intOf i).toNat)
  case atStart => exact ⟨0, [], _, rfl, rfl, hsp.1, by simp, by omega, h0, Below.refl _ _, Nat.le_refl _⟩
  case round =>
    obtain ⟨x, pre, l', rfl, hpl, hR, hpx, hxs, hJs, hnx, hsz⟩ := hrel
    have hcs : wr.cell? ⟨Bs, 0, none⟩ = some (.string s) := (hnx.cell (p := ⟨Bs, 0, none⟩) hB).trans hBs
    by_cases hlt : x < s.size
    · gi_wp2
      refine ⟨trivial, fun _ => (by omega), (callsIn_wide.2 (udec_any (s.extract x s.size) _ (by rw [ext_size]; omega) (by rw [ext_size]; omega))).mono ?_⟩
      rintro e w2 ⟨hd, k2⟩
      cases hR with
      | done h => omega
      | bad h hu =>
        rw [hu] at hd
        obtain ⟨er, he0, rfl⟩ := hd
        have hne : (er != 0) = true := by simp [he0]
        rw [List.append_nil] at hpl
        have hJ2 : J pre w2 := hJ _ _ _ none hJs ⟨k2.os, k2.tape, k2.output, k2.size, fun i hi _ => k2.block i hi (fun h => h)⟩ (fun r e => by cases e)
        gi_wp2
        refine ⟨fun _ h => (by cases h), ?_⟩
        gi_wp2
        refine bodyPost_ret (results_none rfl _ _ _) rfl ?_
        exact ⟨⟨_, rfl⟩, .inl ⟨pre, hpl, hJ2⟩⟩
      | @step _ r m l2 _ h hu hr =>
        rw [hu] at hd
        subst hd
        have hm := u8R_pos hu
        rw [ext_size] at hm
        have hJ2 : J pre w2 := hJ _ _ _ none hJs ⟨k2.os, k2.tape, k2.output, k2.size, fun i hi _ => k2.block i hi (fun h => h)⟩ (fun r e => by cases e)
        obtain ⟨fn, tmps, assign, body, hy, hRo⟩ := hY pre ((x : Int), r) w2 hJ2 (by omega)
        dsimp only at hy
        gi_wp2
        refine ⟨fun _ => (by omega), hRo.mono ?_⟩
        have hz2 := k2.size
        rintro e W3 (⟨rfl, hJ3, hk3⟩ | ⟨rfl, hJx3⟩)
        · gi_wp2
          go_roundw
          case rel => exact ⟨x + m, pre ++ [((x : Int), r)], l2, by simp, by rw [List.map_append, List.append_assoc]; exact hpl, hr, by simp; omega, by omega, hJ3, (hnx.trans ⟨k2.os, k2.tape, k2.output, k2.size, fun i hi => k2.block i (by omega) (fun h => h)⟩).trans hk3, by have := hk3.size; omega⟩
          case measure => simp [intOf]; omega
        · gi_wp2
          refine bodyPost_ret (results_none rfl _ _ _) rfl ?_
          exact ⟨⟨_, rfl⟩, .inr ⟨pre ++ [((x : Int), r)], by rw [List.map_append, ← hpl]; exact ⟨l2, by simp⟩, hJx3⟩⟩
    · obtain rfl : x = s.size := by omega
      have hl := (RN.det hR (.done (Nat.le_refl _))).1
      subst hl
      rw [List.append_nil] at hpl
      gi_wp2
      go_end0
      exact ⟨⟨_, rfl⟩, .inl ⟨pre, hpl, hJs⟩⟩

theorem runes_stops (n : Nat) (hn : 2 ≤ n) (Bs n₀ : Nat) (s : ByteArray) (hs : s.size ≤ 1073741824) (w : World) (hBw : Bs < w.heap.size) (hB : Bs < n₀) (hn₀ : n₀ ≤ w.heap.size) (hc : w.cell? ⟨Bs, 0, none⟩ = some (.string s)) :
    SeqStopsK Fence.wide n Tryz.prog 114 #[.pointer (some ⟨Bs, 0, none⟩)] (fun x : Int × Int => #[.int .i64 x.1, .int .i32 x.2]) (Below n₀) (fun ys => ys.map (·.2) = rnL s) (fun pre => pre.map (·.2) <+: rnL s) s.size w := fun l J Jx W hW hJ _ hY h0 =>
  runes1_in n hn l Bs n₀ s hs J Jx hY W hJ ((hW.cell (p := ⟨Bs, 0, none⟩) hBw).trans hc) hB (Nat.le_trans hn₀ hW.size) h0
set_option maxRecDepth 100000 in
set_option maxHeartbeats 4000000 in
theorem print_in (n : Nat) (hn : 4 ≤ n) (s : ByteArray) (hs : s.size ≤ 1073741824) (w : World) :
    CallsIn Fence.wide n Tryz.prog 52 #[.string s] w fun e W' => e = .returned (.bool (prtB s)) ∧ Below w.heap.size w W' := by
  have h1 : 1 ≤ n := by omega
  refine callsIn_of_wp_marks Tryz.func52 rfl trivial ?_ rfl
  simp only [Tryz.ntmps52, List.size_toArray, List.length_cons, List.length_nil, Nat.reduceAdd, Nat.reduceSub, Array.replicate_succ, Array.replicate_zero, List.push_toArray, List.append_toArray, List.nil_append, List.cons_append]
  gi_wp2
  refine ⟨trivial, (callsIn_wide.2 (uvalid_any s _ hs)).mono ?_⟩
  rintro e w1 ⟨rfl, k1⟩
  have hb1 : w1.heap[w.heap.size]? = some (.cells #[.bool false] 4 (0, 0)) := (k1.block _ (by simp) (fun h => h)).trans (block_alloc w _)
  have hk01 : K0 w w1 := ((Kp.refl _ w).alloc _).trans k1
  have hc1 := cell_block hb1 0
  have hf1 : w1.frozen? ⟨w.heap.size, 0, none⟩ = false := frozen_block hb1 _
  simp only [List.getElem?_toArray, List.getElem?_cons_zero] at hc1
  have hp0 : rnB s = false → prtB s = false := fun h => by unfold prtB; rw [h]; rfl
  cases hv : rnB s with
  | false =>
    gi_wp2
    have hc2 : (w1.setCell ⟨w.heap.size, 0, none⟩ (.bool false)).cell? ⟨w.heap.size, 0, none⟩ = some (.bool false) := World.cell?_setCell_same' _ _ _ (by rw [hc1]; rfl)
    refine ⟨.bool false, ?_, by rw [hp0 hv], ?_⟩
    · simp [results, Tryz.f52, go_sem, hc2]
    · exact (⟨hk01.os, hk01.tape, hk01.output, hk01.size, fun i hi => hk01.block i hi (fun h => h)⟩ : Below w.heap.size w w1).setCell (p := ⟨w.heap.size, 0, none⟩) (Nat.le_refl _) _
  | true =>
    gi_wp2
    refine ⟨trivial, (callsIn_wide.2 (urunes_any s _)).mono ?_⟩
    rintro e w2 ⟨⟨Bs, rfl, hcb, hBl⟩, k2⟩
    have hb2 : w2.heap[w.heap.size]? = some (.cells #[.bool false] 4 (0, 0)) := k2.blk hb1 (fun h => h)
    have hk02 := hk01.trans k2
    have hB2 : Below w.heap.size w w2 := ⟨hk02.os, hk02.tape, hk02.output, hk02.size, fun i hi => hk02.block i hi (fun h => h)⟩
    gi_wp2
    refine wpIn_rangeFunc_ownG rfl h1 (gf := 114) (lb := #[.pointer (some ⟨Bs, 0, none⟩)]) rfl trivial (enters_of Tryz.func114 (by kernel_rfl) rfl)
      (runes_stops (n - 1) (by omega) Bs w2.heap.size s hs w2 hBl hBl (Nat.le_refl _) hcb) belowK_t (belowK_b (Nat.le_refl _)) (Below.refl _ _) (fun _ => rfl)
      (fun pre W => Boxed W w.heap.size 4 (.bool false) ∧ (∀ y ∈ pre, ctlB y.2 = false) ∧ Below w.heap.size w W ∧ Below w2.heap.size w2 W)
      (fun c pre W => c = .ret ∧ (∃ y ∈ pre, ctlB y.2 = true) ∧ Boxed W w.heap.size 4 (.bool false) ∧ Below w.heap.size w W)
      (OwnFrom.and (Own.from (boxed_own _ _ (fun _ => .bool false)) _) (OwnFrom.and (ownFrom_pure _ _) (OwnFrom.and (ownFrom_below (Nat.le_refl _) (hk02.size)) (ownFrom_below (Nat.le_refl _) (Nat.le_refl _)))))
      (fun c => OwnFrom.and (ownFrom_pure _ _) (OwnFrom.and (ownFrom_pure _ _) (OwnFrom.and (Own.from (boxed_own _ _ (fun _ => .bool false)) _) (ownFrom_below (Nat.le_refl _) (hk02.size)))))
      ⟨hb2, (fun y hy => by cases hy), hB2, Below.refl _ _⟩
      (fun x => { tmps := #[.string s, undef, .pointer (some ⟨w.heap.size, 0, none⟩), undef, .int .i32 x.2, .string s, .bool true, .bool false, .string s, .func (.func 114) #[] #[.pointer (some ⟨Bs, 0, none⟩)], .int .i64 x.1, .int .i32 x.2, undef, undef], defers := [] }) ?assign ?body ?done ?stop
    case assign =>
      intro l x W K hK
      gi_wp2
      exact hK
    case body =>
      rintro l pre x W ⟨hbx, hno, hB, hBz⟩ hlt
      have hcx := hbx.cell
      have hfx := hbx.frozen
      gi_wp2
      refine ⟨trivial, fun _ => (by omega), (((callsIn_wide (n := n - 1 - 1 - 1)).2 (uctl_any x.2 W)).inRound l).mono ?_⟩
      rintro e W2 ⟨rfl, k3⟩
      have hbx2 : Boxed W2 w.heap.size 4 (.bool false) := k3.blk hbx (fun h => h)
      have hcx2 := hbx2.cell
      have hfx2 := hbx2.frozen
      have hkf : KeepsFrom w2.heap.size W W2 := ⟨k3.size, fun k o _ hk _ => k3.blk hk (fun h => h)⟩
      have hBW : ∀ m, m ≤ W.heap.size → Below m W W2 := fun m hm => ⟨k3.os, k3.tape, k3.output, k3.size, fun i hi => k3.block i (by omega) (fun h => h)⟩
      have hBs2 := hB.size
      cases hct : ctlB x.2 with
      | true =>
        gi_wp2
        exact ⟨hkf.trans ((KeepsOthers.setCell _ _ _).from _), rfl, ⟨x, by simp, hct⟩, hbx2.set _, (hB.trans (hBW _ hBs2)).setCell (p := ⟨w.heap.size, 0, none⟩) (Nat.le_refl _) _⟩
      | false =>
        gi_wp2
        have hle : w2.heap.size ≤ W.heap.size := hBz.size
        exact ⟨hkf, hBW _ hle, hbx2, fun y hy => by
          rcases List.mem_append.1 hy with h | h
          · exact hno y h
          · simp at h; subst h; exact hct, hB.trans (hBW _ hBs2), hBz.trans (hBW _ hle)⟩
    case done =>
      rintro D ys W hD hys ⟨hbx, hno, hB, _⟩ hK
      have hcx := hbx.cell
      have hfx := hbx.frozen
      gi_wp2
      have hK' := (KeepsOthers.setCell W ⟨w.heap.size, 0, none⟩ (.bool true)).same D _ hK rfl
      have hp : prtB s = true := by
        unfold prtB
        rw [hv, Bool.true_and, ← hys]
        simp only [Bool.not_eq_true', List.any_eq_false, List.mem_map]
        rintro r ⟨y, hy, rfl⟩
        rw [hno y hy]; decide
      have hc5 := Go.cell_kept (World.cell?_setCell_same' W ⟨w.heap.size, 0, none⟩ (.bool true) (by rw [hcx]; rfl)) (grownBy_putObj' _ D (.deferred none)) (fun r e => by cases e; exact ⟨_, hK', rfl⟩)
      refine ⟨by simp, .inl ⟨_, _, rfl, run_takeDeferred hK', ?_⟩⟩
      refine ⟨.bool true, ?_, by rw [hp], (hB.setCell (p := ⟨w.heap.size, 0, none⟩) (Nat.le_refl _) _).trans (belowK_b (w := w) (Nat.le_refl _) _ D _ _ (by have := hk02.size; omega) hK' rfl rfl)⟩
      simp [results, Tryz.f52, go_sem, hc5]
    case stop =>
      rintro D c pre W hD hpre ⟨rfl, hy, hbx, hB⟩ hK
      have hcx := hbx.cell
      gi_wp2
      have hp : prtB s = false := by
        obtain ⟨y, hy1, hy2⟩ := hy
        unfold prtB
        rw [hv, Bool.true_and, Bool.not_eq_false', List.any_eq_true]
        exact ⟨y.2, hpre.subset (List.mem_map.2 ⟨y, hy1, rfl⟩), hy2⟩
      have hc5 := Go.cell_kept hcx (grownBy_putObj' _ D (.deferred none)) (fun r e => by cases e; exact ⟨_, hK, rfl⟩)
      refine ⟨by simp, .inl ⟨_, _, rfl, run_takeDeferred hK, ?_⟩⟩
      refine ⟨.bool false, ?_, by rw [hp], hB.trans (belowK_b (w := w) (Nat.le_refl _) _ D _ _ (by have := hk02.size; omega) hK rfl rfl)⟩
      simp [results, Tryz.f52, go_sem, hc5]
theorem print_any (s : ByteArray) (w : World) (hs : s.size ≤ 1073741824) : Calls Tryz.prog 52 #[.string s] w fun e w' => e = .returned (.bool (prtB s)) ∧ K0 w w' :=
  (callsIn_wide.1 (print_in 4 (by omega) s hs w)).mono fun _ _ ⟨he, hb⟩ => ⟨he, hb.os, hb.tape, hb.output, hb.size, fun i hi _ => hb.block i hi⟩

end Go.Proofs.YtfacflbmlfbeeaaGreatDoor

/- The formulas of functions by the symbolic evaluator, and that each gives the call's contract. Written by a program (gen.py). No condition. -/
namespace Go.Proofs.YtfacflbmlfbeeaaGreatDoor
set_option maxRecDepth 100000
set_option linter.unusedVariables false

def VC_release (b : Nat) (i : Nat -> Int) (s : ByteArray) (a : Nat -> Int) (now : Int) (w : World) (R : Ending -> World -> Prop) : Prop := ∀ (n n_1 : Nat) (W : World), Loc w.heap.size [Blk.mk n_1 45 (arrI .u8 a 16 0) 2, Blk.mk n 32 (arrI .u8 i 32 0) 2] w W -> CallsS Tryz.prog 48 #[.pointer (some (Addr.mk b 0 none)), .int .i64 now] W fun (e : Ending) (w' : World) => ∃ (x : Int), e = .returned (.int .i64 x) /\ KeptL [n_1, n] W w' /\ bsp (x != 0) (R (.returned (.int .i64 x)) w') (∀ (n_2 : Nat) (W : World), Loc w.heap.size [Blk.mk n_2 103 (arrI .u8 i 32 0 ++ [Value.string s]) (wrM 2), Blk.mk n_1 45 (arrI .u8 a 16 0) 0, Blk.mk n 32 (arrI .u8 i 32 0) 0] w' W -> ∃ (S : World -> Prop), S W /\ ∃ (x : Option Nat), (∀ (w' : World), S w' -> w'.cell? (Addr.mk b (0 + 4) none) = some (.map x)) /\ ∃ (f : Nat -> Int) (x_1 : ByteArray), (∀ (w' : World), S w' -> AtL w' n_2 0
 (arrI .u8 f 32 0 ++ [Value.string x_1])) /\ ∃ (f_1 : Nat -> Int) (x_2 : ByteArray), ∃ (x_3 : ByteArray) (x_4 : Int), ∃ (x_5 : Int) (f_2 : Nat -> Int), ∃ (x_6 : Int) (x_7 : ByteArray), ∃ (x_8 : Bool) (f_3 : Nat -> Int), ∃ (x_9 : Int) (b_1 : Bool), (∀ (w' : World), S w' -> LookP Tryz.prog 96 (.map x) (.agg (arrI .u8 f 32 0 ++ [Value.string x_1]).toArray) true (.tuple #[.agg (arrI .u8 f_1 32 0 ++ ([Value.string x_2, .string x_3, .int .i64 x_4, .int .i64 x_5] ++ arrI .u8 f_2 16 0 ++ ([Value.int .i64 x_6, .string x_7, .bool x_8] ++ arrI .u8 f_3 16 0 ++ [Value.int .i64 x_9]))).toArray, .bool b_1]) w') /\ ∀ (n_3 : Nat) (w1 : World), NewB W (Obj.cells #[.int .u8 0, .int .u8 0, .int .u8 0, .int .u8 0, .int .u8 0, .int .u8 0, .int .u8 0, .int .u8 0, .int .u8 0, .int .u8 0, .int .u8 0, .int .u8 0, .int .u8 0, .int .u8 0, .int .u8 0, .int .u8 0, .int .u8 0, .int .u8 0,
 .int .u8 0, .int .u8 0, .int .u8 0, .int .u8 0, .int .u8 0, .int .u8 0, .int .u8 0, .int .u8 0, .int .u8 0, .int .u8 0, .int .u8 0, .int .u8 0, .int .u8 0, .int .u8 0, .string (ByteArray.mk #[]), .string (ByteArray.mk #[]), .int .i64 0, .int .i64 0, .int .u8 0, .int .u8 0, .int .u8 0, .int .u8 0, .int .u8 0, .int .u8 0, .int .u8 0, .int .u8 0, .int .u8 0, .int .u8 0, .int .u8 0, .int .u8 0, .int .u8 0, .int .u8 0, .int .u8 0, .int .u8 0, .int .i64 0, .string (ByteArray.mk #[]), .bool false, .int .u8 0, .int .u8 0, .int .u8 0, .int .u8 0, .int .u8 0, .int .u8 0, .int .u8 0, .int .u8 0, .int .u8 0, .int .u8 0, .int .u8 0, .int .u8 0, .int .u8 0, .int .u8 0, .int .u8 0, .int .u8 0, .int .i64 0] 107) n_3 w1 -> S w1 /\ WrL w1 n_3 0 72 /\ ∀ (w1_1 : World), PutB w1 n_3 0 (arrI .u8 f_1 32 0 ++ ([Value.string x_2,
 .string x_3, .int .i64 x_4, .int .i64 x_5] ++ arrI .u8 f_2 16 0 ++ ([Value.int .i64 x_6, .string x_7, .bool x_8] ++ arrI .u8 f_3 16 0 ++ [Value.int .i64 x_9]))) w1_1 -> KeptL [n_2, n_1, n] W w1_1 /\ ∃ (x : Int), gimp (!!b_1) (w1_1.cell? (Addr.mk n_3 (0 + 35) none) = some (.int .i64 x)) /\ bsp (!b_1 || x != 0) (R (.returned (.int .i64 8)) w1_1) (∃ (x : Bool) (f : Nat -> Int) (x_10 : Int), AtL w1_1 n_3 (0 + 54) ([Value.bool x] ++ arrI .u8 f 16 0 ++ [Value.int .i64 x_10]) /\ CallsS Tryz.prog 81 #[.agg ([Value.bool x] ++ arrI .u8 f 16 0 ++ [Value.int .i64 x_10]).toArray, .int .i64 now] w1_1 fun (e : Ending) (w' : World) => ∃ (x : Bool), e = .returned (.bool x) /\ KeptL [n_2, n_1, n] w1_1 w' /\ ∃ (f : Nat -> Int), gimp (!!x) (AtL w' n_3 (0 + 55) (arrI .u8 f 16 0)) /\ ∃ (r : Bool), gimp (!!x) (EqP Tryz.prog 45 (.agg (arrI .u8 f 16 0).toArray) (.agg (arrI .u8 a 16 0).toArray) r) /\
 bsp (!x || !r) (R (.returned (.int .i64 10)) w') (WrL w' n_3 (0 + 54) 18 /\ ∀ (w1 : World), PutB w' n_3 (0 + 54) [Value.bool false, .int .u8 0, .int .u8 0, .int .u8 0, .int .u8 0, .int .u8 0, .int .u8 0, .int .u8 0, .int .u8 0, .int .u8 0, .int .u8 0, .int .u8 0, .int .u8 0, .int .u8 0, .int .u8 0, .int .u8 0, .int .u8 0, .int .i64 0] w1 -> KeptL [n_2, n_1, n] w' w1 /\ ∃ (x : Option Nat), (∀ (W : World), Loc w.heap.size [Blk.mk n_2 103 (arrI .u8 i 32 0 ++ [Value.string s]) 0, Blk.mk n_1 45 (arrI .u8 a 16 0) 0, Blk.mk n 32 (arrI .u8 i 32 0) 0] w1 W -> W.cell? (Addr.mk b (0 + 4) none) = some (.map x)) /\ ∃ (f : Nat -> Int) (x_11 : ByteArray), ∃ (x_12 : ByteArray) (x_13 : Int), ∃ (x_14 : Int) (f_4 : Nat -> Int), ∃ (x_15 : Int) (x_16 : ByteArray), ∃ (x_17 : Bool) (f_5 : Nat -> Int) (x_18 : Int), (∀ (W : World), Loc w.heap.size [Blk.mk n_2 103
 (arrI .u8 i 32 0 ++ [Value.string s]) 0, Blk.mk n_1 45 (arrI .u8 a 16 0) 0, Blk.mk n 32 (arrI .u8 i 32 0) 0] w1 W -> AtL W n_3 0 (arrI .u8 f 32 0 ++ ([Value.string x_11, .string x_12, .int .i64 x_13, .int .i64 x_14] ++ arrI .u8 f_4 16 0 ++ ([Value.int .i64 x_15, .string x_16, .bool x_17] ++ arrI .u8 f_5 16 0 ++ [Value.int .i64 x_18])))) /\ ∀ (W : World), Loc w.heap.size [Blk.mk n_2 103 (arrI .u8 i 32 0 ++ [Value.string s]) 0, Blk.mk n_1 45 (arrI .u8 a 16 0) 0, Blk.mk n 32 (arrI .u8 i 32 0) 0] w1 W -> ∃ (w1 : World), UpdP Tryz.prog 96 (.map x) (.agg (arrI .u8 i 32 0 ++ [Value.string s]).toArray) (.agg (arrI .u8 f 32 0 ++ ([Value.string x_11, .string x_12, .int .i64 x_13, .int .i64 x_14] ++ arrI .u8 f_4 16 0 ++ ([Value.int .i64 x_15, .string x_16, .bool x_17] ++ arrI .u8 f_5 16 0 ++ [Value.int .i64 x_18]))).toArray) W w1 /\ KeptL [n_2, n_1, n] W w1 /\ R (.returned (.int .i64 0)) w1)))
theorem vc_release (b : Nat) (i : Nat -> Int) (s : ByteArray) (a : Nat -> Int) (now : Int) (w : World) (R : Ending -> World -> Prop) (h : VC_release b i s a now w R) : Calls Tryz.prog 43 ([Value.pointer (some { block := b, off := 0 }), .agg (arrI .u8 i 32 0).toArray, .string s, .agg (arrI .u8 a 16 0).toArray, .int .i64 now] : List Value).toArray w R :=
 calls_of_exec2' (loops := []) (tails := [(5, 9), (11, 6)]) (joins := []) (boxes := []) (rngs := []) (c := Tryz.f43.body.getD .skip) pur1_ok Tryz.func43 (by kernel_rfl) (by kernel_rfl) h

def VC_holder_ (b : Nat) (i : Nat -> Int) (s : ByteArray) (now : Int) (w : World) (R : Ending -> World -> Prop) : Prop := ∀ (n n_1 : Nat) (W : World), Loc w.heap.size [Blk.mk n_1 45 [Value.int .u8 0, .int .u8 0, .int .u8 0, .int .u8 0, .int .u8 0, .int .u8 0, .int .u8 0, .int .u8 0, .int .u8 0, .int .u8 0, .int .u8 0, .int .u8 0, .int .u8 0, .int .u8 0, .int .u8 0, .int .u8 0] 2, Blk.mk n 32 (arrI .u8 i 32 0) 2] w W -> CallsS Tryz.prog 48 #[.pointer (some (Addr.mk b 0 none)), .int .i64 now] W fun (e : Ending) (w' : World) => ∃ (x : Int), e = .returned (.int .i64 x) /\ KeptL [n_1, n] W w' /\ bsp (x != 0) (∀ (W : World), Loc w.heap.size [Blk.mk n_1 45 [Value.int .u8 0, .int .u8 0, .int .u8 0, .int .u8 0, .int .u8 0, .int .u8 0, .int .u8 0, .int .u8 0, .int .u8 0, .int .u8 0, .int .u8 0, .int .u8 0, .int .u8 0, .int .u8 0, .int .u8 0, .int .u8 0] (wrM 0), Blk.mk n 32 (arrI .u8 i 32 0) 0]
 w' W -> R (.returned (.tuple #[.agg #[.int .u8 0, .int .u8 0, .int .u8 0, .int .u8 0, .int .u8 0, .int .u8 0, .int .u8 0, .int .u8 0, .int .u8 0, .int .u8 0, .int .u8 0, .int .u8 0, .int .u8 0, .int .u8 0, .int .u8 0, .int .u8 0], .bool false])) W) (∀ (W : World), Loc w.heap.size [Blk.mk n_1 45 [Value.int .u8 0, .int .u8 0, .int .u8 0, .int .u8 0, .int .u8 0, .int .u8 0, .int .u8 0, .int .u8 0, .int .u8 0, .int .u8 0, .int .u8 0, .int .u8 0, .int .u8 0, .int .u8 0, .int .u8 0, .int .u8 0] 0, Blk.mk n 32 (arrI .u8 i 32 0) 0] w' W -> ∃ (S : World -> Prop), S W /\ ∃ (x : Option Nat), (∀ (w' : World), S w' -> w'.cell? (Addr.mk b (0 + 4) none) = some (.map x)) /\ ∃ (f : Nat -> Int), (∀ (w' : World), S w' -> AtL w' n 0 (arrI .u8 f 32 0)) /\ ∃ (f_1 : Nat -> Int) (x_1 : ByteArray), ∃ (x_2 : ByteArray) (x_3 : Int), ∃ (x_4 : Int) (f_2 : Nat -> Int), ∃ (x_5 : Int) (x_6 : ByteArray),
 ∃ (x_7 : Bool) (f_3 : Nat -> Int) (x_8 : Int), (∀ (w' : World), S w' -> LookP Tryz.prog 96 (.map x) (.agg (arrI .u8 f 32 0 ++ [Value.string s]).toArray) false (.agg (arrI .u8 f_1 32 0 ++ ([Value.string x_1, .string x_2, .int .i64 x_3, .int .i64 x_4] ++ arrI .u8 f_2 16 0 ++ ([Value.int .i64 x_5, .string x_6, .bool x_7] ++ arrI .u8 f_3 16 0 ++ [Value.int .i64 x_8]))).toArray) w') /\ ∀ (n_2 : Nat) (w1 : World), NewB W (Obj.cells #[.int .u8 0, .int .u8 0, .int .u8 0, .int .u8 0, .int .u8 0, .int .u8 0, .int .u8 0, .int .u8 0, .int .u8 0, .int .u8 0, .int .u8 0, .int .u8 0, .int .u8 0, .int .u8 0, .int .u8 0, .int .u8 0, .int .u8 0, .int .u8 0, .int .u8 0, .int .u8 0, .int .u8 0, .int .u8 0, .int .u8 0, .int .u8 0, .int .u8 0, .int .u8 0, .int .u8 0, .int .u8 0, .int .u8 0, .int .u8 0, .int .u8 0, .int .u8 0, .string (ByteArray.mk #[]),
 .string (ByteArray.mk #[]), .int .i64 0, .int .i64 0, .int .u8 0, .int .u8 0, .int .u8 0, .int .u8 0, .int .u8 0, .int .u8 0, .int .u8 0, .int .u8 0, .int .u8 0, .int .u8 0, .int .u8 0, .int .u8 0, .int .u8 0, .int .u8 0, .int .u8 0, .int .u8 0, .int .i64 0, .string (ByteArray.mk #[]), .bool false, .int .u8 0, .int .u8 0, .int .u8 0, .int .u8 0, .int .u8 0, .int .u8 0, .int .u8 0, .int .u8 0, .int .u8 0, .int .u8 0, .int .u8 0, .int .u8 0, .int .u8 0, .int .u8 0, .int .u8 0, .int .u8 0, .int .i64 0] 107) n_2 w1 -> S w1 /\ WrL w1 n_2 0 72 /\ ∀ (w1_1 : World), PutB w1 n_2 0 (arrI .u8 f_1 32 0 ++ ([Value.string x_1, .string x_2, .int .i64 x_3, .int .i64 x_4] ++ arrI .u8 f_2 16 0 ++ ([Value.int .i64 x_5, .string x_6, .bool x_7] ++ arrI .u8 f_3 16 0 ++ [Value.int .i64 x_8]))) w1_1 -> KeptL [n_1, n] W w1_1 /\ ∃ (x : Bool) (f : Nat -> Int) (x_9 : Int), AtL w1_1 n_2 (0 + 54)
 ([Value.bool x] ++ arrI .u8 f 16 0 ++ [Value.int .i64 x_9]) /\ CallsS Tryz.prog 81 #[.agg ([Value.bool x] ++ arrI .u8 f 16 0 ++ [Value.int .i64 x_9]).toArray, .int .i64 now] w1_1 fun (e : Ending) (w' : World) => ∃ (x : Bool), e = .returned (.bool x) /\ KeptL [n_1, n] w1_1 w' /\ bsp (!x) (∀ (W : World), Loc w.heap.size [Blk.mk n_1 45 [Value.int .u8 0, .int .u8 0, .int .u8 0, .int .u8 0, .int .u8 0, .int .u8 0, .int .u8 0, .int .u8 0, .int .u8 0, .int .u8 0, .int .u8 0, .int .u8 0, .int .u8 0, .int .u8 0, .int .u8 0, .int .u8 0] (wrM 0), Blk.mk n 32 (arrI .u8 i 32 0) 0] w' W -> R (.returned (.tuple #[.agg #[.int .u8 0, .int .u8 0, .int .u8 0, .int .u8 0, .int .u8 0, .int .u8 0, .int .u8 0, .int .u8 0, .int .u8 0, .int .u8 0, .int .u8 0, .int .u8 0, .int .u8 0, .int .u8 0, .int .u8 0, .int .u8 0], .bool false])) W) (∃ (f : Nat -> Int), AtL w' n_2 (0 + 55) (arrI .u8 f 16 0) /\
 ∀ (W : World), Loc w.heap.size [Blk.mk n_1 45 (arrI .u8 f 16 0) (wrM 0), Blk.mk n 32 (arrI .u8 i 32 0) 0] w' W -> R (.returned (.tuple #[.agg (arrI .u8 f 16 0).toArray, .bool true])) W))
theorem vc_holder_ (b : Nat) (i : Nat -> Int) (s : ByteArray) (now : Int) (w : World) (R : Ending -> World -> Prop) (h : VC_holder_ b i s now w R) : Calls Tryz.prog 41 ([Value.pointer (some { block := b, off := 0 }), .agg (arrI .u8 i 32 0).toArray, .string s, .int .i64 now] : List Value).toArray w R :=
 calls_of_exec2' (loops := []) (tails := [(3, 8)]) (joins := []) (boxes := []) (rngs := []) (c := Tryz.f41.body.getD .skip) pur1_ok Tryz.func41 (by kernel_rfl) (by kernel_rfl) h

def VC_reject (b : Nat) (i : Nat -> Int) (s : ByteArray) (a : Nat -> Int) (rs : ByteArray) (now : Int) (w : World) (R : Ending -> World -> Prop) : Prop := ∀ (n n_1 : Nat) (W : World), Loc w.heap.size [Blk.mk n_1 45 (arrI .u8 a 16 0) 2, Blk.mk n 32 (arrI .u8 i 32 0) 2] w W -> CallsS Tryz.prog 48 #[.pointer (some (Addr.mk b 0 none)), .int .i64 now] W fun (e : Ending) (w' : World) => ∃ (x : Int), e = .returned (.int .i64 x) /\ KeptL [n_1, n] W w' /\ bsp (x != 0) (R (.returned (.int .i64 x)) w') (bsp (decide ((↑rs.size : Int) > 200)) (R (.returned (.int .i64 5)) w') (CallsS Tryz.prog 52 #[.string rs] w' fun (e : Ending) (w'_1 : World) => ∃ (x : Bool), e = .returned (.bool x) /\ KeptL [n_1, n] w' w'_1 /\ bsp (!x) (R (.returned (.int .i64 6)) w'_1) (CallsS Tryz.prog 50 #[.pointer (some (Addr.mk b 0 none)), .agg (arrI .u8 i 32 0).toArray, .string s, .agg (arrI .u8 a 16 0).toArray,
 .int .i64 now, .int .i64 2, .string rs] w'_1 fun (e : Ending) (w' : World) => ∃ (x : Int), e = .returned (.int .i64 x) /\ KeptL [n_1, n] w'_1 w' /\ R (.returned (.int .i64 x)) w')))
theorem vc_reject (b : Nat) (i : Nat -> Int) (s : ByteArray) (a : Nat -> Int) (rs : ByteArray) (now : Int) (w : World) (R : Ending -> World -> Prop) (h : VC_reject b i s a rs now w R) : Calls Tryz.prog 24 ([Value.pointer (some { block := b, off := 0 }), .agg (arrI .u8 i 32 0).toArray, .string s, .agg (arrI .u8 a 16 0).toArray, .string rs, .int .i64 now] : List Value).toArray w R :=
 calls_of_exec2' (loops := []) (tails := []) (joins := []) (boxes := []) (rngs := []) (c := Tryz.f24.body.getD .skip) pur1_ok Tryz.func24 (by kernel_rfl) (by kernel_rfl) h

def VC_get_ (b : Nat) (i : Nat -> Int) (s : ByteArray) (w : World) (R : Ending -> World -> Prop) : Prop := ∀ (n n_1 : Nat) (W : World), Loc w.heap.size [Blk.mk n_1 48 [Value.int .u8 0, .int .u8 0, .int .u8 0, .int .u8 0, .int .u8 0, .int .u8 0, .int .u8 0, .int .u8 0, .int .u8 0, .int .u8 0, .int .u8 0, .int .u8 0, .int .u8 0, .int .u8 0, .int .u8 0, .int .u8 0, .int .u8 0, .int .u8 0, .int .u8 0, .int .u8 0, .int .u8 0, .int .u8 0, .int .u8 0, .int .u8 0, .int .u8 0, .int .u8 0, .int .u8 0, .int .u8 0, .int .u8 0, .int .u8 0, .int .u8 0, .int .u8 0, .string (ByteArray.mk #[]), .string (ByteArray.mk #[]), .int .i64 0, .int .i64 0, .int .u8 0, .int .u8 0, .int .u8 0, .int .u8 0, .int .u8 0, .int .u8 0, .int .u8 0, .int .u8 0, .int .u8 0, .int .u8 0, .int .u8 0, .int .u8 0, .int .u8 0, .int .u8 0, .int .u8 0, .int .u8 0, .int .i64 0, .string (ByteArray.mk #[])] 2, Blk.mk n 32
 (arrI .u8 i 32 0) 2] w W -> ∃ (S : World -> Prop), S W /\ ∃ (x : Option Nat), (∀ (w' : World), S w' -> w'.cell? (Addr.mk b (0 + 4) none) = some (.map x)) /\ ∃ (f : Nat -> Int), (∀ (w' : World), S w' -> AtL w' n 0 (arrI .u8 f 32 0)) /\ ∃ (f_1 : Nat -> Int) (x_1 : ByteArray), ∃ (x_2 : ByteArray) (x_3 : Int), ∃ (x_4 : Int) (f_2 : Nat -> Int), ∃ (x_5 : Int) (x_6 : ByteArray), ∃ (x_7 : Bool) (f_3 : Nat -> Int), ∃ (x_8 : Int) (b : Bool), (∀ (w' : World), S w' -> LookP Tryz.prog 96 (.map x) (.agg (arrI .u8 f 32 0 ++ [Value.string s]).toArray) true (.tuple #[.agg (arrI .u8 f_1 32 0 ++ ([Value.string x_1, .string x_2, .int .i64 x_3, .int .i64 x_4] ++ arrI .u8 f_2 16 0 ++ ([Value.int .i64 x_5, .string x_6, .bool x_7] ++ arrI .u8 f_3 16 0 ++ [Value.int .i64 x_8]))).toArray, .bool b]) w') /\ ∀ (n_2 : Nat) (w1 : World), NewB W (Obj.cells #[.int .u8 0, .int .u8 0, .int .u8 0,
 .int .u8 0, .int .u8 0, .int .u8 0, .int .u8 0, .int .u8 0, .int .u8 0, .int .u8 0, .int .u8 0, .int .u8 0, .int .u8 0, .int .u8 0, .int .u8 0, .int .u8 0, .int .u8 0, .int .u8 0, .int .u8 0, .int .u8 0, .int .u8 0, .int .u8 0, .int .u8 0, .int .u8 0, .int .u8 0, .int .u8 0, .int .u8 0, .int .u8 0, .int .u8 0, .int .u8 0, .int .u8 0, .int .u8 0, .string (ByteArray.mk #[]), .string (ByteArray.mk #[]), .int .i64 0, .int .i64 0, .int .u8 0, .int .u8 0, .int .u8 0, .int .u8 0, .int .u8 0, .int .u8 0, .int .u8 0, .int .u8 0, .int .u8 0, .int .u8 0, .int .u8 0, .int .u8 0, .int .u8 0, .int .u8 0, .int .u8 0, .int .u8 0, .int .i64 0, .string (ByteArray.mk #[]), .bool false, .int .u8 0, .int .u8 0, .int .u8 0, .int .u8 0, .int .u8 0, .int .u8 0, .int .u8 0, .int .u8 0, .int .u8 0, .int .u8 0, .int .u8 0, .int .u8 0, .int .u8 0, .int .u8 0, .int .u8 0, .int .u8 0, .int .i64 0] 107) n_2 w1 ->
 S w1 /\ WrL w1 n_2 0 72 /\ ∀ (w1_1 : World), PutB w1 n_2 0 (arrI .u8 f_1 32 0 ++ ([Value.string x_1, .string x_2, .int .i64 x_3, .int .i64 x_4] ++ arrI .u8 f_2 16 0 ++ ([Value.int .i64 x_5, .string x_6, .bool x_7] ++ arrI .u8 f_3 16 0 ++ [Value.int .i64 x_8]))) w1_1 -> KeptL [n_1, n] W w1_1 /\ ∃ (f : Nat -> Int) (x : ByteArray), ∃ (x_9 : ByteArray) (x_10 : Int), ∃ (x_11 : Int) (f_4 : Nat -> Int), ∃ (x_12 : Int) (x_13 : ByteArray), AtL w1_1 n_2 0 (arrI .u8 f 32 0 ++ ([Value.string x, .string x_9, .int .i64 x_10, .int .i64 x_11] ++ arrI .u8 f_4 16 0 ++ [Value.int .i64 x_12, .string x_13])) /\ ∀ (W : World), Loc w.heap.size [Blk.mk n_1 48 (arrI .u8 f 32 0 ++ ([Value.string x, .string x_9, .int .i64 x_10, .int .i64 x_11] ++ arrI .u8 f_4 16 0 ++ [Value.int .i64 x_12, .string x_13])) (wrM 0), Blk.mk n 32 (arrI .u8 i 32 0) 0] w1_1 W -> R (.returned (.tuple #[.agg
 (arrI .u8 f 32 0 ++ ([Value.string x, .string x_9, .int .i64 x_10, .int .i64 x_11] ++ arrI .u8 f_4 16 0 ++ [Value.int .i64 x_12, .string x_13])).toArray, .bool b])) W
theorem vc_get_ (b : Nat) (i : Nat -> Int) (s : ByteArray) (w : World) (R : Ending -> World -> Prop) (h : VC_get_ b i s w R) : Calls Tryz.prog 21 ([Value.pointer (some { block := b, off := 0 }), .agg (arrI .u8 i 32 0).toArray, .string s] : List Value).toArray w R :=
 calls_of_exec2' (loops := []) (tails := [(3, 11)]) (joins := []) (boxes := []) (rngs := []) (c := Tryz.f21.body.getD .skip) pur1_ok Tryz.func21 (by kernel_rfl) (by kernel_rfl) h

def VC_lapse (b : Nat) (now : Int) (w : World) (R : Ending -> World -> Prop) : Prop := CallsS Tryz.prog 48 #[.pointer (some (Addr.mk b 0 none)), .int .i64 now] w fun (e : Ending) (w' : World) => ∃ (x : Int), e = .returned (.int .i64 x) /\ KeptL [] w w' /\ bsp (x != 0) (R (.returned (.slice none 0 0)) w') (∃ (x : Int), w'.cell? (Addr.mk b (0 + 1) none) = some (.int .i64 x) /\ ∀ (n : Nat) (W : World), Loc w.heap.size [Blk.mk n 3 [Value.int .i64 (IntKind.i64.wrap (now - IntKind.i64.wrap (x * 1440)))] (wrM 2)] w' W -> CallsS Tryz.prog 65 #[.pointer (some (Addr.mk b 0 none)), Value.func (Fn.func 69) #[] #[.pointer (some (Addr.mk n 0 none))]] W fun (e : Ending) (w' : World) => ∃ (p : Option Addr) (n : Nat) (c : Nat), e = .returned (.slice p n c) /\ KeptL [] W w' /\ CallsS Tryz.prog 67 #[.slice p n c, Value.func (Fn.func 68) #[] #[]] w' fun (e : Ending) (w'_1 : World) =>
 e = .returned (.tuple #[]) /\ KeptL [] w' w'_1 /\ ∃ (I : List Value -> World -> Prop) (m : List Value -> World -> Nat), I [Value.int .i64 0] w'_1 /\ ∀ (x : Int) (w' : World), I [Value.int .i64 x] w' -> bsp (decide (x < (↑n : Int))) (nn true p fun (b_1 o : Nat) => (0 <= x /\ x < (↑n : Int)) /\ ∃ (f : Nat -> Int) (x_1 : ByteArray), ∃ (x_2 : ByteArray) (x_3 : Int), ∃ (x_4 : Int) (f_1 : Nat -> Int), ∃ (x_5 : Int) (x_6 : ByteArray), AtL w' b_1 (o + x.toNat * 54) (arrI .u8 f 32 0 ++ ([Value.string x_1, .string x_2, .int .i64 x_3, .int .i64 x_4] ++ arrI .u8 f_1 16 0 ++ [Value.int .i64 x_5, .string x_6])) /\ ∀ (n_1 : Nat) (W : World), Loc w.heap.size [Blk.mk n_1 48 (arrI .u8 f 32 0 ++ ([Value.string x_1, .string x_2, .int .i64 x_3, .int .i64 x_4] ++ arrI .u8 f_1 16 0 ++ [Value.int .i64 x_5, .string x_6])) (wrM 2)] w' W -> CallsS Tryz.prog 70 #[.pointer (some (Addr.mk b 0 none)),
 .agg (arrI .u8 f 32 0 ++ ([Value.string x_1, .string x_2, .int .i64 x_3, .int .i64 x_4] ++ arrI .u8 f_1 16 0 ++ [Value.int .i64 x_5, .string x_6])).toArray, .agg #[.int .u8 0, .int .u8 0, .int .u8 0, .int .u8 0, .int .u8 0, .int .u8 0, .int .u8 0, .int .u8 0, .int .u8 0, .int .u8 0, .int .u8 0, .int .u8 0, .int .u8 0, .int .u8 0, .int .u8 0, .int .u8 0], .int .i64 now, .int .i64 3, .string (ByteArray.mk #[])] W fun (e : Ending) (w'_2 : World) => ∃ (f : Nat -> Int) (x_7 : ByteArray), ∃ (x_8 : ByteArray) (x_9 : Int), ∃ (x_10 : Int) (f_2 : Nat -> Int), ∃ (x_11 : Int) (x_12 : ByteArray), e = .returned (.agg (arrI .u8 f 32 0 ++ ([Value.string x_7, .string x_8, .int .i64 x_9, .int .i64 x_10] ++ arrI .u8 f_2 16 0 ++ [Value.int .i64 x_11, .string x_12])).toArray) /\ KeptL [n_1] W w'_2 /\ nn true p fun (b o : Nat) => (0 <= x /\ x < (↑n : Int)) /\ WrL w'_2 b (o + x.toNat * 54) 54 /\
 ∀ (w1 : World), PutB w'_2 b (o + x.toNat * 54) (arrI .u8 f 32 0 ++ ([Value.string x_7, .string x_8, .int .i64 x_9, .int .i64 x_10] ++ arrI .u8 f_2 16 0 ++ [Value.int .i64 x_11, .string x_12])) w1 -> KeptL [n_1] w'_2 w1 /\ I [Value.int .i64 (IntKind.i64.wrap (x + 1))] w1 /\ m [Value.int .i64 (IntKind.i64.wrap (x + 1))] w1 < m [Value.int .i64 x] w') (R (.returned (.slice p n c)) w'))
theorem vc_lapse (b : Nat) (now : Int) (w : World) (R : Ending -> World -> Prop) (h : VC_lapse b now w R) : Calls Tryz.prog 33 ([Value.pointer (some { block := b, off := 0 }), .int .i64 now] : List Value).toArray w R :=
 calls_of_exec2' (loops := [(7, [(27, Ck.int .i64)])]) (tails := []) (joins := []) (boxes := []) (rngs := []) (c := Tryz.f33.body.getD .skip) pur1_ok Tryz.func33 (by kernel_rfl) (by kernel_rfl) h

def VC_forget (b : Nat) (bf : Int) (w : World) (R : Ending -> World -> Prop) : Prop := ∀ (n : Nat) (W : World), Loc w.heap.size [Blk.mk n 3 [Value.int .i64 bf] 2] w W -> CallsS Tryz.prog 65 #[.pointer (some (Addr.mk b 0 none)), Value.func (Fn.func 82) #[] #[.pointer (some (Addr.mk n 0 none))]] W fun (e : Ending) (w' : World) => ∃ (p : Option Addr) (n : Nat) (c : Nat), e = .returned (.slice p n c) /\ KeptL [] W w' /\ ∃ (I : List Value -> World -> Prop) (m : List Value -> World -> Nat), I [Value.int .i64 0] w' /\ ∀ (x : Int) (w' : World), I [Value.int .i64 x] w' -> bsp (decide (x < (↑n : Int))) (nn true p fun (b_1 o : Nat) => (0 <= x /\ x < (↑n : Int)) /\ ∃ (f : Nat -> Int) (x_1 : ByteArray), ∃ (x_2 : ByteArray) (x_3 : Int), ∃ (x_4 : Int) (f_1 : Nat -> Int), ∃ (x_5 : Int) (x_6 : ByteArray), AtL w' b_1 (o + x.toNat * 54)
 (arrI .u8 f 32 0 ++ ([Value.string x_1, .string x_2, .int .i64 x_3, .int .i64 x_4] ++ arrI .u8 f_1 16 0 ++ [Value.int .i64 x_5, .string x_6])) /\ ∀ (n : Nat), ∃ (x_7 : Option Nat), (∀ (W : World), Loc w.heap.size [Blk.mk n 48 (arrI .u8 f 32 0 ++ ([Value.string x_1, .string x_2, .int .i64 x_3, .int .i64 x_4] ++ arrI .u8 f_1 16 0 ++ [Value.int .i64 x_5, .string x_6])) (wrM 2)] w' W -> W.cell? (Addr.mk b (0 + 4) none) = some (.map x_7)) /\ ∀ (W : World), Loc w.heap.size [Blk.mk n 48 (arrI .u8 f 32 0 ++ ([Value.string x_1, .string x_2, .int .i64 x_3, .int .i64 x_4] ++ arrI .u8 f_1 16 0 ++ [Value.int .i64 x_5, .string x_6])) (wrM 2)] w' W -> ∃ (w1 : World), BltP Tryz.prog Builtin.delete [96, 103] [Value.map x_7, .agg (arrI .u8 f 32 0 ++ [Value.string x_1]).toArray] W w1 /\ KeptL [n] W w1 /\ I [Value.int .i64 (IntKind.i64.wrap (x + 1))] w1 /\
 m [Value.int .i64 (IntKind.i64.wrap (x + 1))] w1 < m [Value.int .i64 x] w') (R (.returned (.int .i64 (↑n : Int))) w')
theorem vc_forget (b : Nat) (bf : Int) (w : World) (R : Ending -> World -> Prop) (h : VC_forget b bf w R) : Calls Tryz.prog 44 ([Value.pointer (some { block := b, off := 0 }), .int .i64 bf] : List Value).toArray w R :=
 calls_of_exec2' (loops := [(3, [(13, Ck.int .i64)])]) (tails := [(5, 9)]) (joins := []) (boxes := []) (rngs := []) (c := Tryz.f44.body.getD .skip) pur1_ok Tryz.func44 (by kernel_rfl) (by kernel_rfl) h

end Go.Proofs.YtfacflbmlfbeeaaGreatDoor
