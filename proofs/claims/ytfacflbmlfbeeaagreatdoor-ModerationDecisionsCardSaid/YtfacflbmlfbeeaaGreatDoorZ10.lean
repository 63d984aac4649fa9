/- The formulas of functions by the symbolic evaluator, and that each gives the call's contract. Written by a program (gen.py). No condition. -/
import Derived.Test.YtfacflbmlfbeeaaGreatDoorProg
import Derived.Test.YtfacflbmlfbeeaaGreatDoorZ02
import Derived.Test.YtfacflbmlfbeeaaGreatDoorZ04
import Derived.Test.YtfacflbmlfbeeaaGreatDoorZ03
import Derived.KernelRfl
import Derived.Test.YtfacflbmlfbeeaaGreatDoorZ09
namespace Go.Proofs.YtfacflbmlfbeeaaGreatDoor
set_option maxRecDepth 100000
set_option linter.unusedVariables false

def VC_lknown (w : World) (R : Ending -> World -> Prop) : Prop := CallsS Tryz.prog 13 #[.int .i64 5, .int .i64 14] w fun (e : Ending) (w' : World) => ∃ (x : Option Addr) (x_1 : Int), e = .returned (.tuple #[.pointer x, .int .i64 x_1]) /\ KeptL [] w w' /\ bsp (x_1 != 0 || x.isNone) (R (.returned (.bool false)) w') (∀ (n n_1 n_2 n_3 n_4 : Nat) (W : World), Loc w.heap.size [Blk.mk n_4 45 [Value.int .u8 2, .int .u8 0, .int .u8 0, .int .u8 0, .int .u8 0, .int .u8 0, .int .u8 0, .int .u8 0, .int .u8 0, .int .u8 0, .int .u8 0, .int .u8 0, .int .u8 0, .int .u8 0, .int .u8 0, .int .u8 0, .int .u8 1, .int .u8 0, .int .u8 0, .int .u8 0, .int .u8 0, .int .u8 0, .int .u8 0, .int .u8 0, .int .u8 0, .int .u8 0, .int .u8 0, .int .u8 0, .int .u8 0, .int .u8 0, .int .u8 0, .int .u8 0] 2, Blk.mk n_3 32 [Value.int .u8 3, .int .u8 0, .int .u8 0, .int .u8 0, .int .u8 0, .int .u8 0, .int .u8 0, .int .u8 0,
 .int .u8 0, .int .u8 0, .int .u8 0, .int .u8 0, .int .u8 0, .int .u8 0, .int .u8 0, .int .u8 0, .int .u8 0, .int .u8 0, .int .u8 0, .int .u8 0, .int .u8 0, .int .u8 0, .int .u8 0, .int .u8 0, .int .u8 0, .int .u8 0, .int .u8 0, .int .u8 0, .int .u8 0, .int .u8 0, .int .u8 0, .int .u8 0] (wrM 2), Blk.mk n_2 32 [Value.int .u8 7, .int .u8 0, .int .u8 0, .int .u8 0, .int .u8 0, .int .u8 0, .int .u8 0, .int .u8 0, .int .u8 0, .int .u8 0, .int .u8 0, .int .u8 0, .int .u8 0, .int .u8 0, .int .u8 0, .int .u8 0, .int .u8 0, .int .u8 0, .int .u8 0, .int .u8 0, .int .u8 0, .int .u8 0, .int .u8 0, .int .u8 0, .int .u8 0, .int .u8 0, .int .u8 0, .int .u8 0, .int .u8 0, .int .u8 0, .int .u8 0, .int .u8 0] (wrM 2), Blk.mk n_1 45 [Value.int .u8 2, .int .u8 0, .int .u8 0, .int .u8 0, .int .u8 0, .int .u8 0, .int .u8 0, .int .u8 0, .int .u8 0, .int .u8 0, .int .u8 0, .int .u8 0,
 .int .u8 0, .int .u8 0, .int .u8 0, .int .u8 0] (wrM 2), Blk.mk n 45 [Value.int .u8 1, .int .u8 0, .int .u8 0, .int .u8 0, .int .u8 0, .int .u8 0, .int .u8 0, .int .u8 0, .int .u8 0, .int .u8 0, .int .u8 0, .int .u8 0, .int .u8 0, .int .u8 0, .int .u8 0, .int .u8 0] (wrM 2)] w' W -> CallsS Tryz.prog 38 #[.pointer x, .string (ByteArray.mk #[103]), .slice (some (Addr.mk n_4 0 none)) 2 2] W fun (e : Ending) (w' : World) => ∃ (x_2 : Int), e = .returned (.int .i64 x_2) /\ KeptL [n_3, n_2, n_1, n] W w' /\ CallsS Tryz.prog 18 #[.pointer x, .agg #[.int .u8 7, .int .u8 0, .int .u8 0, .int .u8 0, .int .u8 0, .int .u8 0, .int .u8 0, .int .u8 0, .int .u8 0, .int .u8 0, .int .u8 0, .int .u8 0, .int .u8 0, .int .u8 0, .int .u8 0, .int .u8 0, .int .u8 0, .int .u8 0, .int .u8 0, .int .u8 0, .int .u8 0, .int .u8 0, .int .u8 0, .int .u8 0, .int .u8 0, .int .u8 0, .int .u8 0, .int .u8 0,
 .int .u8 0, .int .u8 0, .int .u8 0, .int .u8 0], .string (ByteArray.mk #[103]), .string (ByteArray.mk #[116, 101, 120, 116, 32, 111, 102, 32, 120]), .int .i64 10] w' fun (e : Ending) (w'_1 : World) => ∃ (x_3 : Int), e = .returned (.int .i64 x_3) /\ KeptL [n_3, n_2, n_1, n] w' w'_1 /\ CallsS Tryz.prog 18 #[.pointer x, .agg #[.int .u8 3, .int .u8 0, .int .u8 0, .int .u8 0, .int .u8 0, .int .u8 0, .int .u8 0, .int .u8 0, .int .u8 0, .int .u8 0, .int .u8 0, .int .u8 0, .int .u8 0, .int .u8 0, .int .u8 0, .int .u8 0, .int .u8 0, .int .u8 0, .int .u8 0, .int .u8 0, .int .u8 0, .int .u8 0, .int .u8 0, .int .u8 0, .int .u8 0, .int .u8 0, .int .u8 0, .int .u8 0, .int .u8 0, .int .u8 0, .int .u8 0, .int .u8 0], .string (ByteArray.mk #[103]), .string (ByteArray.mk #[116, 101, 120, 116, 32, 111, 102, 32, 121]), .int .i64 5] w'_1 fun (e : Ending) (w' : World) => ∃ (x_4 : Int),
 e = .returned (.int .i64 x_4) /\ KeptL [n_3, n_2, n_1, n] w'_1 w' /\ CallsS Tryz.prog 39 #[.pointer x, .string (ByteArray.mk #[103]), .agg #[.int .u8 1, .int .u8 0, .int .u8 0, .int .u8 0, .int .u8 0, .int .u8 0, .int .u8 0, .int .u8 0, .int .u8 0, .int .u8 0, .int .u8 0, .int .u8 0, .int .u8 0, .int .u8 0, .int .u8 0, .int .u8 0], .int .i64 20] w' fun (e : Ending) (w'_2 : World) => ∃ (f : Nat -> Int) (x_5 : ByteArray), ∃ (x_6 : ByteArray) (x_7 : Int), ∃ (x_8 : Int) (f_1 : Nat -> Int), ∃ (x_9 : Int) (x_10 : ByteArray) (x_11 : Int), e = .returned (.tuple #[.agg (arrI .u8 f 32 0 ++ ([Value.string x_5, .string x_6, .int .i64 x_7, .int .i64 x_8] ++ arrI .u8 f_1 16 0 ++ [Value.int .i64 x_9, .string x_10])).toArray, .int .i64 x_11]) /\ KeptL [n_3, n_2, n_1, n] w' w'_2 /\ ∀ (n_5 : Nat) (W : World), Loc w.heap.size [Blk.mk n_5 48 (arrI .u8 f 32 0 ++ ([Value.string x_5,
 .string x_6, .int .i64 x_7, .int .i64 x_8] ++ arrI .u8 f_1 16 0 ++ [Value.int .i64 x_9, .string x_10])) (wrM 2), Blk.mk n_3 32 [Value.int .u8 3, .int .u8 0, .int .u8 0, .int .u8 0, .int .u8 0, .int .u8 0, .int .u8 0, .int .u8 0, .int .u8 0, .int .u8 0, .int .u8 0, .int .u8 0, .int .u8 0, .int .u8 0, .int .u8 0, .int .u8 0, .int .u8 0, .int .u8 0, .int .u8 0, .int .u8 0, .int .u8 0, .int .u8 0, .int .u8 0, .int .u8 0, .int .u8 0, .int .u8 0, .int .u8 0, .int .u8 0, .int .u8 0, .int .u8 0, .int .u8 0, .int .u8 0] 0, Blk.mk n_2 32 [Value.int .u8 7, .int .u8 0, .int .u8 0, .int .u8 0, .int .u8 0, .int .u8 0, .int .u8 0, .int .u8 0, .int .u8 0, .int .u8 0, .int .u8 0, .int .u8 0, .int .u8 0, .int .u8 0, .int .u8 0, .int .u8 0, .int .u8 0, .int .u8 0, .int .u8 0, .int .u8 0, .int .u8 0, .int .u8 0, .int .u8 0, .int .u8 0, .int .u8 0, .int .u8 0, .int .u8 0,
 .int .u8 0, .int .u8 0, .int .u8 0, .int .u8 0, .int .u8 0] 0, Blk.mk n_1 45 [Value.int .u8 2, .int .u8 0, .int .u8 0, .int .u8 0, .int .u8 0, .int .u8 0, .int .u8 0, .int .u8 0, .int .u8 0, .int .u8 0, .int .u8 0, .int .u8 0, .int .u8 0, .int .u8 0, .int .u8 0, .int .u8 0] 0, Blk.mk n 45 [Value.int .u8 1, .int .u8 0, .int .u8 0, .int .u8 0, .int .u8 0, .int .u8 0, .int .u8 0, .int .u8 0, .int .u8 0, .int .u8 0, .int .u8 0, .int .u8 0, .int .u8 0, .int .u8 0, .int .u8 0, .int .u8 0] 0] w'_2 W -> CallsS Tryz.prog 39 #[.pointer x, .string (ByteArray.mk #[103]), .agg #[.int .u8 1, .int .u8 0, .int .u8 0, .int .u8 0, .int .u8 0, .int .u8 0, .int .u8 0, .int .u8 0, .int .u8 0, .int .u8 0, .int .u8 0, .int .u8 0, .int .u8 0, .int .u8 0, .int .u8 0, .int .u8 0], .int .i64 20] W fun (e : Ending) (w' : World) => ∃ (f_2 : Nat -> Int) (x_12 : ByteArray), ∃ (x_13 : ByteArray) (x_14 : Int),
 ∃ (x_15 : Int) (f_3 : Nat -> Int), ∃ (x_16 : Int) (x_17 : ByteArray) (x_18 : Int), e = .returned (.tuple #[.agg (arrI .u8 f_2 32 0 ++ ([Value.string x_12, .string x_13, .int .i64 x_14, .int .i64 x_15] ++ arrI .u8 f_3 16 0 ++ [Value.int .i64 x_16, .string x_17])).toArray, .int .i64 x_18]) /\ KeptL [n_5, n_3, n_2, n_1, n] W w' /\ ∀ (n_6 : Nat) (W : World), Loc w.heap.size [Blk.mk n_6 48 (arrI .u8 f_2 32 0 ++ ([Value.string x_12, .string x_13, .int .i64 x_14, .int .i64 x_15] ++ arrI .u8 f_3 16 0 ++ [Value.int .i64 x_16, .string x_17])) (wrM 2), Blk.mk n_5 48 (arrI .u8 f 32 0 ++ ([Value.string x_5, .string x_6, .int .i64 x_7, .int .i64 x_8] ++ arrI .u8 f_1 16 0 ++ [Value.int .i64 x_9, .string x_10])) 0, Blk.mk n_3 32 [Value.int .u8 3, .int .u8 0, .int .u8 0, .int .u8 0, .int .u8 0, .int .u8 0, .int .u8 0, .int .u8 0, .int .u8 0, .int .u8 0, .int .u8 0, .int .u8 0,
 .int .u8 0, .int .u8 0, .int .u8 0, .int .u8 0, .int .u8 0, .int .u8 0, .int .u8 0, .int .u8 0, .int .u8 0, .int .u8 0, .int .u8 0, .int .u8 0, .int .u8 0, .int .u8 0, .int .u8 0, .int .u8 0, .int .u8 0, .int .u8 0, .int .u8 0, .int .u8 0] 0, Blk.mk n_2 32 [Value.int .u8 7, .int .u8 0, .int .u8 0, .int .u8 0, .int .u8 0, .int .u8 0, .int .u8 0, .int .u8 0, .int .u8 0, .int .u8 0, .int .u8 0, .int .u8 0, .int .u8 0, .int .u8 0, .int .u8 0, .int .u8 0, .int .u8 0, .int .u8 0, .int .u8 0, .int .u8 0, .int .u8 0, .int .u8 0, .int .u8 0, .int .u8 0, .int .u8 0, .int .u8 0, .int .u8 0, .int .u8 0, .int .u8 0, .int .u8 0, .int .u8 0, .int .u8 0] 0, Blk.mk n_1 45 [Value.int .u8 2, .int .u8 0, .int .u8 0, .int .u8 0, .int .u8 0, .int .u8 0, .int .u8 0, .int .u8 0, .int .u8 0, .int .u8 0, .int .u8 0, .int .u8 0, .int .u8 0, .int .u8 0, .int .u8 0, .int .u8 0] 0, Blk.mk n 45
 [Value.int .u8 1, .int .u8 0, .int .u8 0, .int .u8 0, .int .u8 0, .int .u8 0, .int .u8 0, .int .u8 0, .int .u8 0, .int .u8 0, .int .u8 0, .int .u8 0, .int .u8 0, .int .u8 0, .int .u8 0, .int .u8 0] 0] w' W -> CallsS Tryz.prog 39 #[.pointer x, .string (ByteArray.mk #[103]), .agg #[.int .u8 2, .int .u8 0, .int .u8 0, .int .u8 0, .int .u8 0, .int .u8 0, .int .u8 0, .int .u8 0, .int .u8 0, .int .u8 0, .int .u8 0, .int .u8 0, .int .u8 0, .int .u8 0, .int .u8 0, .int .u8 0], .int .i64 20] W fun (e : Ending) (w' : World) => ∃ (f_4 : Nat -> Int) (x_19 : ByteArray), ∃ (x_20 : ByteArray) (x_21 : Int), ∃ (x_22 : Int) (f_5 : Nat -> Int), ∃ (x_23 : Int) (x_24 : ByteArray) (x_25 : Int), e = .returned (.tuple #[.agg (arrI .u8 f_4 32 0 ++ ([Value.string x_19, .string x_20, .int .i64 x_21, .int .i64 x_22] ++ arrI .u8 f_5 16 0 ++ [Value.int .i64 x_23, .string x_24])).toArray,
 .int .i64 x_25]) /\ KeptL [n_6, n_5, n_3, n_2, n_1, n] W w' /\ ∀ (n_7 : Nat) (W : World), Loc w.heap.size [Blk.mk n_7 48 (arrI .u8 f_4 32 0 ++ ([Value.string x_19, .string x_20, .int .i64 x_21, .int .i64 x_22] ++ arrI .u8 f_5 16 0 ++ [Value.int .i64 x_23, .string x_24])) (wrM 2), Blk.mk n_6 48 (arrI .u8 f_2 32 0 ++ ([Value.string x_12, .string x_13, .int .i64 x_14, .int .i64 x_15] ++ arrI .u8 f_3 16 0 ++ [Value.int .i64 x_16, .string x_17])) 0, Blk.mk n_5 48 (arrI .u8 f 32 0 ++ ([Value.string x_5, .string x_6, .int .i64 x_7, .int .i64 x_8] ++ arrI .u8 f_1 16 0 ++ [Value.int .i64 x_9, .string x_10])) 0, Blk.mk n_3 32 [Value.int .u8 3, .int .u8 0, .int .u8 0, .int .u8 0, .int .u8 0, .int .u8 0, .int .u8 0, .int .u8 0, .int .u8 0, .int .u8 0, .int .u8 0, .int .u8 0, .int .u8 0, .int .u8 0, .int .u8 0, .int .u8 0, .int .u8 0, .int .u8 0, .int .u8 0, .int .u8 0, .int .u8 0, .int .u8 0,
 .int .u8 0, .int .u8 0, .int .u8 0, .int .u8 0, .int .u8 0, .int .u8 0, .int .u8 0, .int .u8 0, .int .u8 0, .int .u8 0] 0, Blk.mk n_2 32 [Value.int .u8 7, .int .u8 0, .int .u8 0, .int .u8 0, .int .u8 0, .int .u8 0, .int .u8 0, .int .u8 0, .int .u8 0, .int .u8 0, .int .u8 0, .int .u8 0, .int .u8 0, .int .u8 0, .int .u8 0, .int .u8 0, .int .u8 0, .int .u8 0, .int .u8 0, .int .u8 0, .int .u8 0, .int .u8 0, .int .u8 0, .int .u8 0, .int .u8 0, .int .u8 0, .int .u8 0, .int .u8 0, .int .u8 0, .int .u8 0, .int .u8 0, .int .u8 0] 0, Blk.mk n_1 45 [Value.int .u8 2, .int .u8 0, .int .u8 0, .int .u8 0, .int .u8 0, .int .u8 0, .int .u8 0, .int .u8 0, .int .u8 0, .int .u8 0, .int .u8 0, .int .u8 0, .int .u8 0, .int .u8 0, .int .u8 0, .int .u8 0] 0, Blk.mk n 45 [Value.int .u8 1, .int .u8 0, .int .u8 0, .int .u8 0, .int .u8 0, .int .u8 0, .int .u8 0, .int .u8 0, .int .u8 0, .int .u8 0,
 .int .u8 0, .int .u8 0, .int .u8 0, .int .u8 0, .int .u8 0, .int .u8 0] 0] w' W -> CallsS Tryz.prog 19 #[.pointer x, .agg #[.int .u8 3, .int .u8 0, .int .u8 0, .int .u8 0, .int .u8 0, .int .u8 0, .int .u8 0, .int .u8 0, .int .u8 0, .int .u8 0, .int .u8 0, .int .u8 0, .int .u8 0, .int .u8 0, .int .u8 0, .int .u8 0, .int .u8 0, .int .u8 0, .int .u8 0, .int .u8 0, .int .u8 0, .int .u8 0, .int .u8 0, .int .u8 0, .int .u8 0, .int .u8 0, .int .u8 0, .int .u8 0, .int .u8 0, .int .u8 0, .int .u8 0, .int .u8 0], .string (ByteArray.mk #[103]), .agg #[.int .u8 2, .int .u8 0, .int .u8 0, .int .u8 0, .int .u8 0, .int .u8 0, .int .u8 0, .int .u8 0, .int .u8 0, .int .u8 0, .int .u8 0, .int .u8 0, .int .u8 0, .int .u8 0, .int .u8 0, .int .u8 0], .int .i64 79] W fun (e : Ending) (w' : World) => ∃ (x_26 : Int) (f_6 : Nat -> Int), ∃ (x_27 : ByteArray) (x_28 : Int) (x_29 : Bool),
 ∃ (p : Option Addr) (n_8 : Nat), ∃ (c : Nat) (x_30 : ByteArray), ∃ (x_31 : Int) (x_32 : Int), ∃ (f_7 : Nat -> Int) (x_33 : Int), e = .returned (.tuple #[.agg ([Value.int .i64 x_26] ++ arrI .u8 f_6 32 0 ++ ([Value.string x_27, .int .i64 x_28, .bool x_29, .slice p n_8 c, .string x_30, .int .i64 x_31, .int .i64 x_32] ++ arrI .u8 f_7 16 0)).toArray, .int .i64 x_33]) /\ KeptL [n_7, n_6, n_5, n_3, n_2, n_1, n] W w' /\ ∀ (n_9 : Nat) (W : World), Loc w.heap.size [Blk.mk n_9 42 ([Value.int .i64 x_26] ++ arrI .u8 f_6 32 0 ++ ([Value.string x_27, .int .i64 x_28, .bool x_29, .slice p n_8 c, .string x_30, .int .i64 x_31, .int .i64 x_32] ++ arrI .u8 f_7 16 0)) (wrM 2), Blk.mk n_7 48 (arrI .u8 f_4 32 0 ++ ([Value.string x_19, .string x_20, .int .i64 x_21, .int .i64 x_22] ++ arrI .u8 f_5 16 0 ++ [Value.int .i64 x_23, .string x_24])) 0, Blk.mk n_6 48
 (arrI .u8 f_2 32 0 ++ ([Value.string x_12, .string x_13, .int .i64 x_14, .int .i64 x_15] ++ arrI .u8 f_3 16 0 ++ [Value.int .i64 x_16, .string x_17])) 0, Blk.mk n_5 48 (arrI .u8 f 32 0 ++ ([Value.string x_5, .string x_6, .int .i64 x_7, .int .i64 x_8] ++ arrI .u8 f_1 16 0 ++ [Value.int .i64 x_9, .string x_10])) 0, Blk.mk n_3 32 [Value.int .u8 3, .int .u8 0, .int .u8 0, .int .u8 0, .int .u8 0, .int .u8 0, .int .u8 0, .int .u8 0, .int .u8 0, .int .u8 0, .int .u8 0, .int .u8 0, .int .u8 0, .int .u8 0, .int .u8 0, .int .u8 0, .int .u8 0, .int .u8 0, .int .u8 0, .int .u8 0, .int .u8 0, .int .u8 0, .int .u8 0, .int .u8 0, .int .u8 0, .int .u8 0, .int .u8 0, .int .u8 0, .int .u8 0, .int .u8 0, .int .u8 0, .int .u8 0] 0, Blk.mk n_2 32 [Value.int .u8 7, .int .u8 0, .int .u8 0, .int .u8 0, .int .u8 0, .int .u8 0, .int .u8 0, .int .u8 0, .int .u8 0, .int .u8 0, .int .u8 0, .int .u8 0, .int .u8 0,
 .int .u8 0, .int .u8 0, .int .u8 0, .int .u8 0, .int .u8 0, .int .u8 0, .int .u8 0, .int .u8 0, .int .u8 0, .int .u8 0, .int .u8 0, .int .u8 0, .int .u8 0, .int .u8 0, .int .u8 0, .int .u8 0, .int .u8 0, .int .u8 0, .int .u8 0] 0, Blk.mk n_1 45 [Value.int .u8 2, .int .u8 0, .int .u8 0, .int .u8 0, .int .u8 0, .int .u8 0, .int .u8 0, .int .u8 0, .int .u8 0, .int .u8 0, .int .u8 0, .int .u8 0, .int .u8 0, .int .u8 0, .int .u8 0, .int .u8 0] 0, Blk.mk n 45 [Value.int .u8 1, .int .u8 0, .int .u8 0, .int .u8 0, .int .u8 0, .int .u8 0, .int .u8 0, .int .u8 0, .int .u8 0, .int .u8 0, .int .u8 0, .int .u8 0, .int .u8 0, .int .u8 0, .int .u8 0, .int .u8 0] 0] w' W -> CallsS Tryz.prog 19 #[.pointer x, .agg #[.int .u8 3, .int .u8 0, .int .u8 0, .int .u8 0, .int .u8 0, .int .u8 0, .int .u8 0, .int .u8 0, .int .u8 0, .int .u8 0, .int .u8 0, .int .u8 0, .int .u8 0, .int .u8 0, .int .u8 0,
 .int .u8 0, .int .u8 0, .int .u8 0, .int .u8 0, .int .u8 0, .int .u8 0, .int .u8 0, .int .u8 0, .int .u8 0, .int .u8 0, .int .u8 0, .int .u8 0, .int .u8 0, .int .u8 0, .int .u8 0, .int .u8 0, .int .u8 0], .string (ByteArray.mk #[103]), .agg #[.int .u8 2, .int .u8 0, .int .u8 0, .int .u8 0, .int .u8 0, .int .u8 0, .int .u8 0, .int .u8 0, .int .u8 0, .int .u8 0, .int .u8 0, .int .u8 0, .int .u8 0, .int .u8 0, .int .u8 0, .int .u8 0], .int .i64 80] W fun (e : Ending) (w' : World) => ∃ (x_34 : Int) (f_8 : Nat -> Int), ∃ (x_35 : ByteArray) (x_36 : Int), ∃ (x_37 : Bool) (p_1 : Option Addr), ∃ (n_10 : Nat) (c_1 : Nat), ∃ (x_38 : ByteArray) (x_39 : Int), ∃ (x_40 : Int) (f_9 : Nat -> Int) (x_41 : Int), e = .returned (.tuple #[.agg ([Value.int .i64 x_34] ++ arrI .u8 f_8 32 0 ++ ([Value.string x_35, .int .i64 x_36, .bool x_37, .slice p_1 n_10 c_1, .string x_38, .int
 .i64 x_39, .int .i64 x_40] ++ arrI .u8 f_9 16 0)).toArray, .int .i64 x_41]) /\ KeptL [n_9, n_7, n_6, n_5, n_3, n_2, n_1, n] W w' /\ ∀ (n_11 : Nat), ∃ (f_10 : Nat -> Int), gimp (x_2 == 0 && x_3 == 0 && x_4 == 0 && x_11 == 0) (∀ (W : World), Loc w.heap.size [Blk.mk n_11 42 ([Value.int .i64 x_34] ++ arrI .u8 f_8 32 0 ++ ([Value.string x_35, .int .i64 x_36, .bool x_37, .slice p_1 n_10 c_1, .string x_38, .int .i64 x_39, .int .i64 x_40] ++ arrI .u8 f_9 16 0)) (wrM 2), Blk.mk n_9 42 ([Value.int .i64 x_26] ++ arrI .u8 f_6 32 0 ++ ([Value.string x_27, .int .i64 x_28, .bool x_29, .slice p n_8 c, .string x_30, .int .i64 x_31, .int .i64 x_32] ++ arrI .u8 f_7 16 0)) 0, Blk.mk n_7 48 (arrI .u8 f_4 32 0 ++ ([Value.string x_19, .string x_20, .int .i64 x_21, .int .i64 x_22] ++ arrI .u8 f_5 16 0 ++ [Value.int .i64 x_23, .string x_24])) 0, Blk.mk n_6 48 (arrI .u8 f_2 32 0 ++ ([Value.string x_12, .string
 x_13, .int .i64 x_14, .int .i64 x_15] ++ arrI .u8 f_3 16 0 ++ [Value.int .i64 x_16, .string x_17])) 0, Blk.mk n_5 48 (arrI .u8 f 32 0 ++ ([Value.string x_5, .string x_6, .int .i64 x_7, .int .i64 x_8] ++ arrI .u8 f_1 16 0 ++ [Value.int .i64 x_9, .string x_10])) 0, Blk.mk n_3 32 [Value.int .u8 3, .int .u8 0, .int .u8 0, .int .u8 0, .int .u8 0, .int .u8 0, .int .u8 0, .int .u8 0, .int .u8 0, .int .u8 0, .int .u8 0, .int .u8 0, .int .u8 0, .int .u8 0, .int .u8 0, .int .u8 0, .int .u8 0, .int .u8 0, .int .u8 0, .int .u8 0, .int .u8 0, .int .u8 0, .int .u8 0, .int .u8 0, .int .u8 0, .int .u8 0, .int .u8 0, .int .u8 0, .int .u8 0, .int .u8 0, .int .u8 0, .int .u8 0] 0, Blk.mk n_2 32 [Value.int .u8 7, .int .u8 0, .int .u8 0, .int .u8 0, .int .u8 0, .int .u8 0, .int .u8 0, .int .u8 0, .int .u8 0, .int .u8 0, .int .u8 0, .int .u8 0, .int .u8 0, .int .u8 0, .int .u8 0, .int .u8 0, .int .u8 0,
 .int .u8 0, .int .u8 0, .int .u8 0, .int .u8 0, .int .u8 0, .int .u8 0, .int .u8 0, .int .u8 0, .int .u8 0, .int .u8 0, .int .u8 0, .int .u8 0, .int .u8 0, .int .u8 0, .int .u8 0] 0, Blk.mk n_1 45 [Value.int .u8 2, .int .u8 0, .int .u8 0, .int .u8 0, .int .u8 0, .int .u8 0, .int .u8 0, .int .u8 0, .int .u8 0, .int .u8 0, .int .u8 0, .int .u8 0, .int .u8 0, .int .u8 0, .int .u8 0, .int .u8 0] 0, Blk.mk n 45 [Value.int .u8 1, .int .u8 0, .int .u8 0, .int .u8 0, .int .u8 0, .int .u8 0, .int .u8 0, .int .u8 0, .int .u8 0, .int .u8 0, .int .u8 0, .int .u8 0, .int .u8 0, .int .u8 0, .int .u8 0, .int .u8 0] 0] w' W -> AtL W n_5 0 (arrI .u8 f_10 32 0)) /\ ∃ (r : Bool), gimp (x_2 == 0 && x_3 == 0 && x_4 == 0 && x_11 == 0) (EqP Tryz.prog 32 (.agg (arrI .u8 f_10 32 0).toArray) (.agg #[.int .u8 3, .int .u8 0, .int .u8 0, .int .u8 0, .int .u8 0, .int .u8 0, .int .u8 0, .int .u8 0, .int .u8 0, .int
 .u8 0, .int .u8 0, .int .u8 0, .int .u8 0, .int .u8 0, .int .u8 0, .int .u8 0, .int .u8 0, .int .u8 0, .int .u8 0, .int .u8 0, .int .u8 0, .int .u8 0, .int .u8 0, .int .u8 0, .int .u8 0, .int .u8 0, .int .u8 0, .int .u8 0, .int .u8 0, .int .u8 0, .int .u8 0, .int .u8 0]) r) /\ ∃ (x_42 : ByteArray), gimp (x_2 == 0 && x_3 == 0 && x_4 == 0 && x_11 == 0 && r) (∀ (W : World), Loc w.heap.size [Blk.mk n_11 42 ([Value.int .i64 x_34] ++ arrI .u8 f_8 32 0 ++ ([Value.string x_35, .int .i64 x_36, .bool x_37, .slice p_1 n_10 c_1, .string x_38, .int .i64 x_39, .int .i64 x_40] ++ arrI .u8 f_9 16 0)) (wrM 2), Blk.mk n_9 42 ([Value.int .i64 x_26] ++ arrI .u8 f_6 32 0 ++ ([Value.string x_27, .int .i64 x_28, .bool x_29, .slice p n_8 c, .string x_30, .int .i64 x_31, .int .i64 x_32] ++ arrI .u8 f_7 16 0)) 0, Blk.mk n_7 48 (arrI .u8 f_4 32 0 ++ ([Value.string x_19, .string x_20, .int .i64 x_21, .int .i64
 x_22] ++ arrI .u8 f_5 16 0 ++ [Value.int .i64 x_23, .string x_24])) 0, Blk.mk n_6 48 (arrI .u8 f_2 32 0 ++ ([Value.string x_12, .string x_13, .int .i64 x_14, .int .i64 x_15] ++ arrI .u8 f_3 16 0 ++ [Value.int .i64 x_16, .string x_17])) 0, Blk.mk n_5 48 (arrI .u8 f 32 0 ++ ([Value.string x_5, .string x_6, .int .i64 x_7, .int .i64 x_8] ++ arrI .u8 f_1 16 0 ++ [Value.int .i64 x_9, .string x_10])) 0, Blk.mk n_3 32 [Value.int .u8 3, .int .u8 0, .int .u8 0, .int .u8 0, .int .u8 0, .int .u8 0, .int .u8 0, .int .u8 0, .int .u8 0, .int .u8 0, .int .u8 0, .int .u8 0, .int .u8 0, .int .u8 0, .int .u8 0, .int .u8 0, .int .u8 0, .int .u8 0, .int .u8 0, .int .u8 0, .int .u8 0, .int .u8 0, .int .u8 0, .int .u8 0, .int .u8 0, .int .u8 0, .int .u8 0, .int .u8 0, .int .u8 0, .int .u8 0, .int .u8 0, .int .u8 0] 0, Blk.mk n_2 32 [Value.int .u8 7, .int .u8 0, .int .u8 0, .int .u8 0, .int .u8 0, .int .u8 0,
 .int .u8 0, .int .u8 0, .int .u8 0, .int .u8 0, .int .u8 0, .int .u8 0, .int .u8 0, .int .u8 0, .int .u8 0, .int .u8 0, .int .u8 0, .int .u8 0, .int .u8 0, .int .u8 0, .int .u8 0, .int .u8 0, .int .u8 0, .int .u8 0, .int .u8 0, .int .u8 0, .int .u8 0, .int .u8 0, .int .u8 0, .int .u8 0, .int .u8 0, .int .u8 0] 0, Blk.mk n_1 45 [Value.int .u8 2, .int .u8 0, .int .u8 0, .int .u8 0, .int .u8 0, .int .u8 0, .int .u8 0, .int .u8 0, .int .u8 0, .int .u8 0, .int .u8 0, .int .u8 0, .int .u8 0, .int .u8 0, .int .u8 0, .int .u8 0] 0, Blk.mk n 45 [Value.int .u8 1, .int .u8 0, .int .u8 0, .int .u8 0, .int .u8 0, .int .u8 0, .int .u8 0, .int .u8 0, .int .u8 0, .int .u8 0, .int .u8 0, .int .u8 0, .int .u8 0, .int .u8 0, .int .u8 0, .int .u8 0] 0] w' W -> W.cell? (Addr.mk n_5 (0 + 33) none) = some (.string x_42)) /\ ∃ (f_11 : Nat -> Int), gimp (x_2 == 0 && x_3 == 0 && x_4 == 0 && x_11 == 0 && r &&
 x_42.toList == [(ByteArray.mk #[116, 101, 120, 116, 32, 111, 102, 32, 121]).get! 0, (ByteArray.mk #[116, 101, 120, 116, 32, 111, 102, 32, 121]).get! 1, (ByteArray.mk #[116, 101, 120, 116, 32, 111, 102, 32, 121]).get! 2, (ByteArray.mk #[116, 101, 120, 116, 32, 111, 102, 32, 121]).get! 3, (ByteArray.mk #[116, 101, 120, 116, 32, 111, 102, 32, 121]).get! 4, (ByteArray.mk #[116, 101, 120, 116, 32, 111, 102, 32, 121]).get! 5, (ByteArray.mk #[116, 101, 120, 116, 32, 111, 102, 32, 121]).get! 6, (ByteArray.mk #[116, 101, 120, 116, 32, 111, 102, 32, 121]).get! 7, (ByteArray.mk #[116, 101, 120, 116, 32, 111, 102, 32, 121]).get! 8]) (∀ (W : World), Loc w.heap.size [Blk.mk n_11 42 ([Value.int .i64 x_34] ++ arrI .u8 f_8 32 0 ++ ([Value.string x_35, .int .i64 x_36, .bool x_37, .slice p_1 n_10 c_1, .string x_38, .int .i64 x_39, .int .i64 x_40] ++ arrI .u8 f_9 16 0)) (wrM 2), Blk.mk n_9 42 ([Value.int
 .i64 x_26] ++ arrI .u8 f_6 32 0 ++ ([Value.string x_27, .int .i64 x_28, .bool x_29, .slice p n_8 c, .string x_30, .int .i64 x_31, .int .i64 x_32] ++ arrI .u8 f_7 16 0)) 0, Blk.mk n_7 48 (arrI .u8 f_4 32 0 ++ ([Value.string x_19, .string x_20, .int .i64 x_21, .int .i64 x_22] ++ arrI .u8 f_5 16 0 ++ [Value.int .i64 x_23, .string x_24])) 0, Blk.mk n_6 48 (arrI .u8 f_2 32 0 ++ ([Value.string x_12, .string x_13, .int .i64 x_14, .int .i64 x_15] ++ arrI .u8 f_3 16 0 ++ [Value.int .i64 x_16, .string x_17])) 0, Blk.mk n_5 48 (arrI .u8 f 32 0 ++ ([Value.string x_5, .string x_6, .int .i64 x_7, .int .i64 x_8] ++ arrI .u8 f_1 16 0 ++ [Value.int .i64 x_9, .string x_10])) 0, Blk.mk n_3 32 [Value.int .u8 3, .int .u8 0, .int .u8 0, .int .u8 0, .int .u8 0, .int .u8 0, .int .u8 0, .int .u8 0, .int .u8 0, .int .u8 0, .int .u8 0, .int .u8 0, .int .u8 0, .int .u8 0, .int .u8 0, .int .u8 0, .int .u8 0, .int
 .u8 0, .int .u8 0, .int .u8 0, .int .u8 0, .int .u8 0, .int .u8 0, .int .u8 0, .int .u8 0, .int .u8 0, .int .u8 0, .int .u8 0, .int .u8 0, .int .u8 0, .int .u8 0, .int .u8 0] 0, Blk.mk n_2 32 [Value.int .u8 7, .int .u8 0, .int .u8 0, .int .u8 0, .int .u8 0, .int .u8 0, .int .u8 0, .int .u8 0, .int .u8 0, .int .u8 0, .int .u8 0, .int .u8 0, .int .u8 0, .int .u8 0, .int .u8 0, .int .u8 0, .int .u8 0, .int .u8 0, .int .u8 0, .int .u8 0, .int .u8 0, .int .u8 0, .int .u8 0, .int .u8 0, .int .u8 0, .int .u8 0, .int .u8 0, .int .u8 0, .int .u8 0, .int .u8 0, .int .u8 0, .int .u8 0] 0, Blk.mk n_1 45 [Value.int .u8 2, .int .u8 0, .int .u8 0, .int .u8 0, .int .u8 0, .int .u8 0, .int .u8 0, .int .u8 0, .int .u8 0, .int .u8 0, .int .u8 0, .int .u8 0, .int .u8 0, .int .u8 0, .int .u8 0, .int .u8 0] 0, Blk.mk n 45 [Value.int .u8 1, .int .u8 0, .int .u8 0, .int .u8 0, .int .u8 0, .int .u8 0, .int .u8
 0, .int .u8 0, .int .u8 0, .int .u8 0, .int .u8 0, .int .u8 0, .int .u8 0, .int .u8 0, .int .u8 0, .int .u8 0] 0] w' W -> AtL W n_6 0 (arrI .u8 f_11 32 0)) /\ ∃ (r_1 : Bool), gimp (x_2 == 0 && x_3 == 0 && x_4 == 0 && x_11 == 0 && r && x_42.toList == [(ByteArray.mk #[116, 101, 120, 116, 32, 111, 102, 32, 121]).get! 0, (ByteArray.mk #[116, 101, 120, 116, 32, 111, 102, 32, 121]).get! 1, (ByteArray.mk #[116, 101, 120, 116, 32, 111, 102, 32, 121]).get! 2, (ByteArray.mk #[116, 101, 120, 116, 32, 111, 102, 32, 121]).get! 3, (ByteArray.mk #[116, 101, 120, 116, 32, 111, 102, 32, 121]).get! 4, (ByteArray.mk #[116, 101, 120, 116, 32, 111, 102, 32, 121]).get! 5, (ByteArray.mk #[116, 101, 120, 116, 32, 111, 102, 32, 121]).get! 6, (ByteArray.mk #[116, 101, 120, 116, 32, 111, 102, 32, 121]).get! 7, (ByteArray.mk #[116, 101, 120, 116, 32, 111, 102, 32, 121]).get! 8]) (EqP Tryz.prog 32 (.agg
 (arrI .u8 f_11 32 0).toArray) (.agg #[.int .u8 3, .int .u8 0, .int .u8 0, .int .u8 0, .int .u8 0, .int .u8 0, .int .u8 0, .int .u8 0, .int .u8 0, .int .u8 0, .int .u8 0, .int .u8 0, .int .u8 0, .int .u8 0, .int .u8 0, .int .u8 0, .int .u8 0, .int .u8 0, .int .u8 0, .int .u8 0, .int .u8 0, .int .u8 0, .int .u8 0, .int .u8 0, .int .u8 0, .int .u8 0, .int .u8 0, .int .u8 0, .int .u8 0, .int .u8 0, .int .u8 0, .int .u8 0]) r_1) /\ ∃ (f_12 : Nat -> Int), gimp (x_2 == 0 && x_3 == 0 && x_4 == 0 && x_11 == 0 && r && x_42.toList == [(ByteArray.mk #[116, 101, 120, 116, 32, 111, 102, 32, 121]).get! 0, (ByteArray.mk #[116, 101, 120, 116, 32, 111, 102, 32, 121]).get! 1, (ByteArray.mk #[116, 101, 120, 116, 32, 111, 102, 32, 121]).get! 2, (ByteArray.mk #[116, 101, 120, 116, 32, 111, 102, 32, 121]).get! 3, (ByteArray.mk #[116, 101, 120, 116, 32, 111, 102, 32, 121]).get! 4, (ByteArray.mk #[116, 101,
 120, 116, 32, 111, 102, 32, 121]).get! 5, (ByteArray.mk #[116, 101, 120, 116, 32, 111, 102, 32, 121]).get! 6, (ByteArray.mk #[116, 101, 120, 116, 32, 111, 102, 32, 121]).get! 7, (ByteArray.mk #[116, 101, 120, 116, 32, 111, 102, 32, 121]).get! 8] && r_1) (∀ (W : World), Loc w.heap.size [Blk.mk n_11 42 ([Value.int .i64 x_34] ++ arrI .u8 f_8 32 0 ++ ([Value.string x_35, .int .i64 x_36, .bool x_37, .slice p_1 n_10 c_1, .string x_38, .int .i64 x_39, .int .i64 x_40] ++ arrI .u8 f_9 16 0)) (wrM 2), Blk.mk n_9 42 ([Value.int .i64 x_26] ++ arrI .u8 f_6 32 0 ++ ([Value.string x_27, .int .i64 x_28, .bool x_29, .slice p n_8 c, .string x_30, .int .i64 x_31, .int .i64 x_32] ++ arrI .u8 f_7 16 0)) 0, Blk.mk n_7 48 (arrI .u8 f_4 32 0 ++ ([Value.string x_19, .string x_20, .int .i64 x_21, .int .i64 x_22] ++ arrI .u8 f_5 16 0 ++ [Value.int .i64 x_23, .string x_24])) 0, Blk.mk n_6 48
 (arrI .u8 f_2 32 0 ++ ([Value.string x_12, .string x_13, .int .i64 x_14, .int .i64 x_15] ++ arrI .u8 f_3 16 0 ++ [Value.int .i64 x_16, .string x_17])) 0, Blk.mk n_5 48 (arrI .u8 f 32 0 ++ ([Value.string x_5, .string x_6, .int .i64 x_7, .int .i64 x_8] ++ arrI .u8 f_1 16 0 ++ [Value.int .i64 x_9, .string x_10])) 0, Blk.mk n_3 32 [Value.int .u8 3, .int .u8 0, .int .u8 0, .int .u8 0, .int .u8 0, .int .u8 0, .int .u8 0, .int .u8 0, .int .u8 0, .int .u8 0, .int .u8 0, .int .u8 0, .int .u8 0, .int .u8 0, .int .u8 0, .int .u8 0, .int .u8 0, .int .u8 0, .int .u8 0, .int .u8 0, .int .u8 0, .int .u8 0, .int .u8 0, .int .u8 0, .int .u8 0, .int .u8 0, .int .u8 0, .int .u8 0, .int .u8 0, .int .u8 0, .int .u8 0, .int .u8 0] 0, Blk.mk n_2 32 [Value.int .u8 7, .int .u8 0, .int .u8 0, .int .u8 0, .int .u8 0, .int .u8 0, .int .u8 0, .int .u8 0, .int .u8 0, .int .u8 0, .int .u8 0, .int .u8 0, .int .u8 0,
 .int .u8 0, .int .u8 0, .int .u8 0, .int .u8 0, .int .u8 0, .int .u8 0, .int .u8 0, .int .u8 0, .int .u8 0, .int .u8 0, .int .u8 0, .int .u8 0, .int .u8 0, .int .u8 0, .int .u8 0, .int .u8 0, .int .u8 0, .int .u8 0, .int .u8 0] 0, Blk.mk n_1 45 [Value.int .u8 2, .int .u8 0, .int .u8 0, .int .u8 0, .int .u8 0, .int .u8 0, .int .u8 0, .int .u8 0, .int .u8 0, .int .u8 0, .int .u8 0, .int .u8 0, .int .u8 0, .int .u8 0, .int .u8 0, .int .u8 0] 0, Blk.mk n 45 [Value.int .u8 1, .int .u8 0, .int .u8 0, .int .u8 0, .int .u8 0, .int .u8 0, .int .u8 0, .int .u8 0, .int .u8 0, .int .u8 0, .int .u8 0, .int .u8 0, .int .u8 0, .int .u8 0, .int .u8 0, .int .u8 0] 0] w' W -> AtL W n_7 0 (arrI .u8 f_12 32 0)) /\ ∃ (r_2 : Bool), gimp (x_2 == 0 && x_3 == 0 && x_4 == 0 && x_11 == 0 && r && x_42.toList == [(ByteArray.mk #[116, 101, 120, 116, 32, 111, 102, 32, 121]).get! 0, (ByteArray.mk #[116, 101, 120,
 116, 32, 111, 102, 32, 121]).get! 1, (ByteArray.mk #[116, 101, 120, 116, 32, 111, 102, 32, 121]).get! 2, (ByteArray.mk #[116, 101, 120, 116, 32, 111, 102, 32, 121]).get! 3, (ByteArray.mk #[116, 101, 120, 116, 32, 111, 102, 32, 121]).get! 4, (ByteArray.mk #[116, 101, 120, 116, 32, 111, 102, 32, 121]).get! 5, (ByteArray.mk #[116, 101, 120, 116, 32, 111, 102, 32, 121]).get! 6, (ByteArray.mk #[116, 101, 120, 116, 32, 111, 102, 32, 121]).get! 7, (ByteArray.mk #[116, 101, 120, 116, 32, 111, 102, 32, 121]).get! 8] && r_1) (EqP Tryz.prog 32 (.agg (arrI .u8 f_12 32 0).toArray) (.agg #[.int .u8 7, .int .u8 0, .int .u8 0, .int .u8 0, .int .u8 0, .int .u8 0, .int .u8 0, .int .u8 0, .int .u8 0, .int .u8 0, .int .u8 0, .int .u8 0, .int .u8 0, .int .u8 0, .int .u8 0, .int .u8 0, .int .u8 0, .int .u8 0, .int .u8 0, .int .u8 0, .int .u8 0, .int .u8 0, .int .u8 0, .int .u8 0, .int .u8 0, .int .u8 0,
 .int .u8 0, .int .u8 0, .int .u8 0, .int .u8 0, .int .u8 0, .int .u8 0]) r_2) /\ ∃ (x_43 : Int), gimp (x_2 == 0 && x_3 == 0 && x_4 == 0 && x_11 == 0 && r && x_42.toList == [(ByteArray.mk #[116, 101, 120, 116, 32, 111, 102, 32, 121]).get! 0, (ByteArray.mk #[116, 101, 120, 116, 32, 111, 102, 32, 121]).get! 1, (ByteArray.mk #[116, 101, 120, 116, 32, 111, 102, 32, 121]).get! 2, (ByteArray.mk #[116, 101, 120, 116, 32, 111, 102, 32, 121]).get! 3, (ByteArray.mk #[116, 101, 120, 116, 32, 111, 102, 32, 121]).get! 4, (ByteArray.mk #[116, 101, 120, 116, 32, 111, 102, 32, 121]).get! 5, (ByteArray.mk #[116, 101, 120, 116, 32, 111, 102, 32, 121]).get! 6, (ByteArray.mk #[116, 101, 120, 116, 32, 111, 102, 32, 121]).get! 7, (ByteArray.mk #[116, 101, 120, 116, 32, 111, 102, 32, 121]).get! 8] && r_1 && r_2 && x_33 == 25 && x_41 == 0) (∀ (W : World), Loc w.heap.size [Blk.mk n_11 42 ([Value.int .i64
 x_34] ++ arrI .u8 f_8 32 0 ++ ([Value.string x_35, .int .i64 x_36, .bool x_37, .slice p_1 n_10 c_1, .string x_38, .int .i64 x_39, .int .i64 x_40] ++ arrI .u8 f_9 16 0)) (wrM 2), Blk.mk n_9 42 ([Value.int .i64 x_26] ++ arrI .u8 f_6 32 0 ++ ([Value.string x_27, .int .i64 x_28, .bool x_29, .slice p n_8 c, .string x_30, .int .i64 x_31, .int .i64 x_32] ++ arrI .u8 f_7 16 0)) 0, Blk.mk n_7 48 (arrI .u8 f_4 32 0 ++ ([Value.string x_19, .string x_20, .int .i64 x_21, .int .i64 x_22] ++ arrI .u8 f_5 16 0 ++ [Value.int .i64 x_23, .string x_24])) 0, Blk.mk n_6 48 (arrI .u8 f_2 32 0 ++ ([Value.string x_12, .string x_13, .int .i64 x_14, .int .i64 x_15] ++ arrI .u8 f_3 16 0 ++ [Value.int .i64 x_16, .string x_17])) 0, Blk.mk n_5 48 (arrI .u8 f 32 0 ++ ([Value.string x_5, .string x_6, .int .i64 x_7, .int .i64 x_8] ++ arrI .u8 f_1 16 0 ++ [Value.int .i64 x_9, .string x_10])) 0, Blk.mk n_3 32 [Value.int
 .u8 3, .int .u8 0, .int .u8 0, .int .u8 0, .int .u8 0, .int .u8 0, .int .u8 0, .int .u8 0, .int .u8 0, .int .u8 0, .int .u8 0, .int .u8 0, .int .u8 0, .int .u8 0, .int .u8 0, .int .u8 0, .int .u8 0, .int .u8 0, .int .u8 0, .int .u8 0, .int .u8 0, .int .u8 0, .int .u8 0, .int .u8 0, .int .u8 0, .int .u8 0, .int .u8 0, .int .u8 0, .int .u8 0, .int .u8 0, .int .u8 0, .int .u8 0] 0, Blk.mk n_2 32 [Value.int .u8 7, .int .u8 0, .int .u8 0, .int .u8 0, .int .u8 0, .int .u8 0, .int .u8 0, .int .u8 0, .int .u8 0, .int .u8 0, .int .u8 0, .int .u8 0, .int .u8 0, .int .u8 0, .int .u8 0, .int .u8 0, .int .u8 0, .int .u8 0, .int .u8 0, .int .u8 0, .int .u8 0, .int .u8 0, .int .u8 0, .int .u8 0, .int .u8 0, .int .u8 0, .int .u8 0, .int .u8 0, .int .u8 0, .int .u8 0, .int .u8 0, .int .u8 0] 0, Blk.mk n_1 45 [Value.int .u8 2, .int .u8 0, .int .u8 0, .int .u8 0, .int .u8 0, .int .u8 0, .int .u8 0, .int
 .u8 0, .int .u8 0, .int .u8 0, .int .u8 0, .int .u8 0, .int .u8 0, .int .u8 0, .int .u8 0, .int .u8 0] 0, Blk.mk n 45 [Value.int .u8 1, .int .u8 0, .int .u8 0, .int .u8 0, .int .u8 0, .int .u8 0, .int .u8 0, .int .u8 0, .int .u8 0, .int .u8 0, .int .u8 0, .int .u8 0, .int .u8 0, .int .u8 0, .int .u8 0, .int .u8 0] 0] w' W -> W.cell? (Addr.mk n_11 0 none) = some (.int .i64 x_43)) /\ ∃ (f_13 : Nat -> Int), gimp (x_2 == 0 && x_3 == 0 && x_4 == 0 && x_11 == 0 && r && x_42.toList == [(ByteArray.mk #[116, 101, 120, 116, 32, 111, 102, 32, 121]).get! 0, (ByteArray.mk #[116, 101, 120, 116, 32, 111, 102, 32, 121]).get! (0 + 1), (ByteArray.mk #[116, 101, 120, 116, 32, 111, 102, 32, 121]).get! 2, (ByteArray.mk #[116, 101, 120, 116, 32, 111, 102, 32, 121]).get! 3, (ByteArray.mk #[116, 101, 120, 116, 32, 111, 102, 32, 121]).get! 4, (ByteArray.mk #[116, 101, 120, 116, 32, 111, 102, 32, 121]).get! 5,
 (ByteArray.mk #[116, 101, 120, 116, 32, 111, 102, 32, 121]).get! 6, (ByteArray.mk #[116, 101, 120, 116, 32, 111, 102, 32, 121]).get! 7, (ByteArray.mk #[116, 101, 120, 116, 32, 111, 102, 32, 121]).get! 8] && r_1 && r_2 && x_33 == 25 && x_41 == 0 && x_43 == 2) (∀ (W : World), Loc w.heap.size [Blk.mk n_11 42 ([Value.int .i64 x_34] ++ arrI .u8 f_8 32 0 ++ ([Value.string x_35, .int .i64 x_36, .bool x_37, .slice p_1 n_10 c_1, .string x_38, .int .i64 x_39, .int .i64 x_40] ++ arrI .u8 f_9 16 0)) (wrM 2), Blk.mk n_9 42 ([Value.int .i64 x_26] ++ arrI .u8 f_6 32 0 ++ ([Value.string x_27, .int .i64 x_28, .bool x_29, .slice p n_8 c, .string x_30, .int .i64 x_31, .int .i64 x_32] ++ arrI .u8 f_7 16 0)) 0, Blk.mk n_7 48 (arrI .u8 f_4 32 0 ++ ([Value.string x_19, .string x_20, .int .i64 x_21, .int .i64 x_22] ++ arrI .u8 f_5 16 0 ++ [Value.int .i64 x_23, .string x_24])) 0, Blk.mk n_6 48
 (arrI .u8 f_2 32 0 ++ ([Value.string x_12, .string x_13, .int .i64 x_14, .int .i64 x_15] ++ arrI .u8 f_3 16 0 ++ [Value.int .i64 x_16, .string x_17])) 0, Blk.mk n_5 48 (arrI .u8 f 32 0 ++ ([Value.string x_5, .string x_6, .int .i64 x_7, .int .i64 x_8] ++ arrI .u8 f_1 16 0 ++ [Value.int .i64 x_9, .string x_10])) 0, Blk.mk n_3 32 [Value.int .u8 3, .int .u8 0, .int .u8 0, .int .u8 0, .int .u8 0, .int .u8 0, .int .u8 0, .int .u8 0, .int .u8 0, .int .u8 0, .int .u8 0, .int .u8 0, .int .u8 0, .int .u8 0, .int .u8 0, .int .u8 0, .int .u8 0, .int .u8 0, .int .u8 0, .int .u8 0, .int .u8 0, .int .u8 0, .int .u8 0, .int .u8 0, .int .u8 0, .int .u8 0, .int .u8 0, .int .u8 0, .int .u8 0, .int .u8 0, .int .u8 0, .int .u8 0] 0, Blk.mk n_2 32 [Value.int .u8 7, .int .u8 0, .int .u8 0, .int .u8 0, .int .u8 0, .int .u8 0, .int .u8 0, .int .u8 0, .int .u8 0, .int .u8 0, .int .u8 0, .int .u8 0, .int .u8 0,
 .int .u8 0, .int .u8 0, .int .u8 0, .int .u8 0, .int .u8 0, .int .u8 0, .int .u8 0, .int .u8 0, .int .u8 0, .int .u8 0, .int .u8 0, .int .u8 0, .int .u8 0, .int .u8 0, .int .u8 0, .int .u8 0, .int .u8 0, .int .u8 0, .int .u8 0] 0, Blk.mk n_1 45 [Value.int .u8 2, .int .u8 0, .int .u8 0, .int .u8 0, .int .u8 0, .int .u8 0, .int .u8 0, .int .u8 0, .int .u8 0, .int .u8 0, .int .u8 0, .int .u8 0, .int .u8 0, .int .u8 0, .int .u8 0, .int .u8 0] 0, Blk.mk n 45 [Value.int .u8 1, .int .u8 0, .int .u8 0, .int .u8 0, .int .u8 0, .int .u8 0, .int .u8 0, .int .u8 0, .int .u8 0, .int .u8 0, .int .u8 0, .int .u8 0, .int .u8 0, .int .u8 0, .int .u8 0, .int .u8 0] 0] w' W -> AtL W n_11 (0 + 1) (arrI .u8 f_13 32 0)) /\ ∃ (r_3 : Bool), gimp (x_2 == 0 && x_3 == 0 && x_4 == 0 && x_11 == 0 && r && x_42.toList == [(ByteArray.mk #[116, 101, 120, 116, 32, 111, 102, 32, 121]).get! 0, (ByteArray.mk #[116, 101,
 120, 116, 32, 111, 102, 32, 121]).get! (0 + 1), (ByteArray.mk #[116, 101, 120, 116, 32, 111, 102, 32, 121]).get! 2, (ByteArray.mk #[116, 101, 120, 116, 32, 111, 102, 32, 121]).get! 3, (ByteArray.mk #[116, 101, 120, 116, 32, 111, 102, 32, 121]).get! 4, (ByteArray.mk #[116, 101, 120, 116, 32, 111, 102, 32, 121]).get! 5, (ByteArray.mk #[116, 101, 120, 116, 32, 111, 102, 32, 121]).get! 6, (ByteArray.mk #[116, 101, 120, 116, 32, 111, 102, 32, 121]).get! 7, (ByteArray.mk #[116, 101, 120, 116, 32, 111, 102, 32, 121]).get! 8] && r_1 && r_2 && x_33 == 25 && x_41 == 0 && x_43 == 2) (EqP Tryz.prog 32 (.agg (arrI .u8 f_13 32 0).toArray) (.agg #[.int .u8 3, .int .u8 0, .int .u8 0, .int .u8 0, .int .u8 0, .int .u8 0, .int .u8 0, .int .u8 0, .int .u8 0, .int .u8 0, .int .u8 0, .int .u8 0, .int .u8 0, .int .u8 0, .int .u8 0, .int .u8 0, .int .u8 0, .int .u8 0, .int .u8 0, .int .u8 0, .int .u8 0, .int
 .u8 0, .int .u8 0, .int .u8 0, .int .u8 0, .int .u8 0, .int .u8 0, .int .u8 0, .int .u8 0, .int .u8 0, .int .u8 0, .int .u8 0]) r_3) /\ ∃ (x_44 : ByteArray), gimp (x_2 == 0 && x_3 == 0 && x_4 == 0 && x_11 == 0 && r && x_42.toList == [(ByteArray.mk #[116, 101, 120, 116, 32, 111, 102, 32, 121]).get! 0, (ByteArray.mk #[116, 101, 120, 116, 32, 111, 102, 32, 121]).get! (0 + 1), (ByteArray.mk #[116, 101, 120, 116, 32, 111, 102, 32, 121]).get! 2, (ByteArray.mk #[116, 101, 120, 116, 32, 111, 102, 32, 121]).get! 3, (ByteArray.mk #[116, 101, 120, 116, 32, 111, 102, 32, 121]).get! 4, (ByteArray.mk #[116, 101, 120, 116, 32, 111, 102, 32, 121]).get! 5, (ByteArray.mk #[116, 101, 120, 116, 32, 111, 102, 32, 121]).get! 6, (ByteArray.mk #[116, 101, 120, 116, 32, 111, 102, 32, 121]).get! 7, (ByteArray.mk #[116, 101, 120, 116, 32, 111, 102, 32, 121]).get! 8] && r_1 && r_2 && x_33 == 25 && x_41 == 0 &&
 x_43 == 2 && r_3) (∀ (W : World), Loc w.heap.size [Blk.mk n_11 42 ([Value.int .i64 x_34] ++ arrI .u8 f_8 32 0 ++ ([Value.string x_35, .int .i64 x_36, .bool x_37, .slice p_1 n_10 c_1, .string x_38, .int .i64 x_39, .int .i64 x_40] ++ arrI .u8 f_9 16 0)) (wrM 2), Blk.mk n_9 42 ([Value.int .i64 x_26] ++ arrI .u8 f_6 32 0 ++ ([Value.string x_27, .int .i64 x_28, .bool x_29, .slice p n_8 c, .string x_30, .int .i64 x_31, .int .i64 x_32] ++ arrI .u8 f_7 16 0)) 0, Blk.mk n_7 48 (arrI .u8 f_4 32 0 ++ ([Value.string x_19, .string x_20, .int .i64 x_21, .int .i64 x_22] ++ arrI .u8 f_5 16 0 ++ [Value.int .i64 x_23, .string x_24])) 0, Blk.mk n_6 48 (arrI .u8 f_2 32 0 ++ ([Value.string x_12, .string x_13, .int .i64 x_14, .int .i64 x_15] ++ arrI .u8 f_3 16 0 ++ [Value.int .i64 x_16, .string x_17])) 0, Blk.mk n_5 48 (arrI .u8 f 32 0 ++ ([Value.string x_5, .string x_6, .int .i64 x_7, .int .i64
 x_8] ++ arrI .u8 f_1 16 0 ++ [Value.int .i64 x_9, .string x_10])) 0, Blk.mk n_3 32 [Value.int .u8 3, .int .u8 0, .int .u8 0, .int .u8 0, .int .u8 0, .int .u8 0, .int .u8 0, .int .u8 0, .int .u8 0, .int .u8 0, .int .u8 0, .int .u8 0, .int .u8 0, .int .u8 0, .int .u8 0, .int .u8 0, .int .u8 0, .int .u8 0, .int .u8 0, .int .u8 0, .int .u8 0, .int .u8 0, .int .u8 0, .int .u8 0, .int .u8 0, .int .u8 0, .int .u8 0, .int .u8 0, .int .u8 0, .int .u8 0, .int .u8 0, .int .u8 0] 0, Blk.mk n_2 32 [Value.int .u8 7, .int .u8 0, .int .u8 0, .int .u8 0, .int .u8 0, .int .u8 0, .int .u8 0, .int .u8 0, .int .u8 0, .int .u8 0, .int .u8 0, .int .u8 0, .int .u8 0, .int .u8 0, .int .u8 0, .int .u8 0, .int .u8 0, .int .u8 0, .int .u8 0, .int .u8 0, .int .u8 0, .int .u8 0, .int .u8 0, .int .u8 0, .int .u8 0, .int .u8 0, .int .u8 0, .int .u8 0, .int .u8 0, .int .u8 0, .int .u8 0, .int .u8 0] 0, Blk.mk n_1 45
 [Value.int .u8 2, .int .u8 0, .int .u8 0, .int .u8 0, .int .u8 0, .int .u8 0, .int .u8 0, .int .u8 0, .int .u8 0, .int .u8 0, .int .u8 0, .int .u8 0, .int .u8 0, .int .u8 0, .int .u8 0, .int .u8 0] 0, Blk.mk n 45 [Value.int .u8 1, .int .u8 0, .int .u8 0, .int .u8 0, .int .u8 0, .int .u8 0, .int .u8 0, .int .u8 0, .int .u8 0, .int .u8 0, .int .u8 0, .int .u8 0, .int .u8 0, .int .u8 0, .int .u8 0, .int .u8 0] 0] w' W -> W.cell? (Addr.mk n_11 (0 + 33) none) = some (.string x_44)) /\ ∀ (W : World), Loc w.heap.size [Blk.mk n_11 42 ([Value.int .i64 x_34] ++ arrI .u8 f_8 32 0 ++ ([Value.string x_35, .int .i64 x_36, .bool x_37, .slice p_1 n_10 c_1, .string x_38, .int .i64 x_39, .int .i64 x_40] ++ arrI .u8 f_9 16 0)) (wrM 2), Blk.mk n_9 42 ([Value.int .i64 x_26] ++ arrI .u8 f_6 32 0 ++ ([Value.string x_27, .int .i64 x_28, .bool x_29, .slice p n_8 c, .string x_30, .int .i64 x_31, .int .i64
 x_32] ++ arrI .u8 f_7 16 0)) 0, Blk.mk n_7 48 (arrI .u8 f_4 32 0 ++ ([Value.string x_19, .string x_20, .int .i64 x_21, .int .i64 x_22] ++ arrI .u8 f_5 16 0 ++ [Value.int .i64 x_23, .string x_24])) 0, Blk.mk n_6 48 (arrI .u8 f_2 32 0 ++ ([Value.string x_12, .string x_13, .int .i64 x_14, .int .i64 x_15] ++ arrI .u8 f_3 16 0 ++ [Value.int .i64 x_16, .string x_17])) 0, Blk.mk n_5 48 (arrI .u8 f 32 0 ++ ([Value.string x_5, .string x_6, .int .i64 x_7, .int .i64 x_8] ++ arrI .u8 f_1 16 0 ++ [Value.int .i64 x_9, .string x_10])) 0, Blk.mk n_3 32 [Value.int .u8 3, .int .u8 0, .int .u8 0, .int .u8 0, .int .u8 0, .int .u8 0, .int .u8 0, .int .u8 0, .int .u8 0, .int .u8 0, .int .u8 0, .int .u8 0, .int .u8 0, .int .u8 0, .int .u8 0, .int .u8 0, .int .u8 0, .int .u8 0, .int .u8 0, .int .u8 0, .int .u8 0, .int .u8 0, .int .u8 0, .int .u8 0, .int .u8 0, .int .u8 0, .int .u8 0, .int .u8 0, .int .u8 0,
 .int .u8 0, .int .u8 0, .int .u8 0] 0, Blk.mk n_2 32 [Value.int .u8 7, .int .u8 0, .int .u8 0, .int .u8 0, .int .u8 0, .int .u8 0, .int .u8 0, .int .u8 0, .int .u8 0, .int .u8 0, .int .u8 0, .int .u8 0, .int .u8 0, .int .u8 0, .int .u8 0, .int .u8 0, .int .u8 0, .int .u8 0, .int .u8 0, .int .u8 0, .int .u8 0, .int .u8 0, .int .u8 0, .int .u8 0, .int .u8 0, .int .u8 0, .int .u8 0, .int .u8 0, .int .u8 0, .int .u8 0, .int .u8 0, .int .u8 0] 0, Blk.mk n_1 45 [Value.int .u8 2, .int .u8 0, .int .u8 0, .int .u8 0, .int .u8 0, .int .u8 0, .int .u8 0, .int .u8 0, .int .u8 0, .int .u8 0, .int .u8 0, .int .u8 0, .int .u8 0, .int .u8 0, .int .u8 0, .int .u8 0] 0, Blk.mk n 45 [Value.int .u8 1, .int .u8 0, .int .u8 0, .int .u8 0, .int .u8 0, .int .u8 0, .int .u8 0, .int .u8 0, .int .u8 0, .int .u8 0, .int .u8 0, .int .u8 0, .int .u8 0, .int .u8 0, .int .u8 0, .int .u8 0] 0] w' W -> bsp (x_2 == 0 &&
 x_3 == 0 && x_4 == 0 && x_11 == 0 && r && x_42.toList == [(ByteArray.mk #[116, 101, 120, 116, 32, 111, 102, 32, 121]).get! 0, (ByteArray.mk #[116, 101, 120, 116, 32, 111, 102, 32, 121]).get! (0 + 1), (ByteArray.mk #[116, 101, 120, 116, 32, 111, 102, 32, 121]).get! 2, (ByteArray.mk #[116, 101, 120, 116, 32, 111, 102, 32, 121]).get! 3, (ByteArray.mk #[116, 101, 120, 116, 32, 111, 102, 32, 121]).get! 4, (ByteArray.mk #[116, 101, 120, 116, 32, 111, 102, 32, 121]).get! 5, (ByteArray.mk #[116, 101, 120, 116, 32, 111, 102, 32, 121]).get! 6, (ByteArray.mk #[116, 101, 120, 116, 32, 111, 102, 32, 121]).get! 7, (ByteArray.mk #[116, 101, 120, 116, 32, 111, 102, 32, 121]).get! 8] && r_1 && r_2 && x_33 == 25 && x_41 == 0 && x_43 == 2 && r_3 && x_44.toList == [(ByteArray.mk #[103]).get! 0]) (CallsS Tryz.prog 15 #[.pointer x, .string (ByteArray.mk #[103]), .int .i64 1] W fun (e : Ending) (w' :
 World) => ∃ (x : Int), e = .returned (.int .i64 x) /\ KeptL [n_11, n_9, n_7, n_6, n_5, n_3, n_2, n_1, n] W w' /\ R (.returned (.bool (true && x == 1))) w') (KeptL [n_11, n_9, n_7, n_6, n_5, n_3, n_2, n_1, n] W W /\ R (.returned (.bool false)) W))
theorem vc_lknown (w : World) (R : Ending -> World -> Prop) (h : VC_lknown w R) : Calls Tryz.prog 14 ([] : List Value).toArray w R :=
 calls_of_exec2' (loops := []) (tails := []) (joins := []) (boxes := []) (rngs := []) (c := Tryz.f14.body.getD .skip) pur1_ok Tryz.func14 (by kernel_rfl) (by kernel_rfl) h

end Go.Proofs.YtfacflbmlfbeeaaGreatDoor

/- Chapter 39: the example of the chapter holds; ModerationNew on worlds. The library's variable MaxLen holds a number. -/
namespace Go.Proofs.YtfacflbmlfbeeaaGreatDoor
open Go.RowKit Go.Sort Go.Maps

theorem kidEq {u v : Int} (hu : 0 ≤ u ∧ u ≤ 255) (hv : 0 ≤ v ∧ v ≤ 255) {r : Bool} (hr : r = decide (idI (k39 u) = idI (k39 v))) : EqP Tryz.prog 32 (.agg (arrI .u8 (k39 u) 32 0).toArray) (.agg (arrI .u8 (k39 v) 32 0).toArray) r := by
  rw [hr]; exact idEqF (k39_BY hu) (k39_BY hv)
set_option maxRecDepth 100000 in
set_option maxHeartbeats 8000000 in
theorem known_any (w : World) (hG : GW w) : Calls Tryz.prog 14 #[] w fun e w' => e = .returned (.bool true) ∧ K0 w w' := by
  have hw0 : 0 < w.heap.size := by
    obtain ⟨m, hm⟩ := hG
    unfold World.cell? at hm
    rcases Nat.lt_or_ge 0 w.heap.size with h | h
    · exact h
    · simp only [Array.getElem?_eq_none h] at hm
      cases hm
  refine vc_lknown w _ ⟨(mnew_any 5 14 w hw0).mono fun e w1 hN => ?_⟩
  rcases hN with ⟨h, _⟩ | ⟨_, b, mb, eb, he, hq, k1, gb, gm, ge⟩
  · exact absurd h (by decide)
  refine ⟨_, _, he, .of_k0 k1, bsp_intro (fun h => by cases h) (fun _ n n1 n2 n3 n4 W hW => ?_)⟩
  have k2 : K0 w1 W := hW.kk rfl
  have fresh : ∀ {wa wb : World}, K0 w wa → Kp (QB b mb eb) wa wb → K0 w wb := fun ka hk => ka.fresh hk (fun j hj e => by rcases e with e | e | e <;> omega)
  have hG' : ∀ {wa : World}, K0 w wa → GW wa := fun k => hG.kp k (fun h => h)
  have c0 := hW.cells 0 rfl
  have c1 := hW.cells 1 rfl
  have c2 := hW.cells 2 rfl
  have c3 := hW.cells 3 rfl
  have c4 := hW.cells 4 rfl
  have kT2 := k1.trans k2
  have hR : RowA auC 16 W (some ⟨n4, 0, none⟩) [k39 2, k39 1] := fun k y hy => by
    match k, hy with
    | 0, hy => cases hy; exact ⟨n4, 0, rfl, AtL_block c0 rfl⟩
    | 1, hy => cases hy; exact ⟨n4, 0, rfl, AtL_block c0 rfl⟩
    | k + 2, hy => cases hy
  have q2 := hq.k0 k2
  have hb1 := block_lt hq.st
  have hm1 := hq.mm.lt
  have he1 := hq.me.lt
  have kept : ∀ {wa wb : World} {ns : List Nat}, Kp (QB b mb eb) wa wb → (∀ z ∈ ns, w1.heap.size ≤ z) → KeptL ns wa wb := fun hk hns => .of_kp hk fun z hz e => by
    have := hns z hz
    rcases e with e | e | e <;> omega
  have g0 : w1.heap.size ≤ n4 := hW.fresh 0 rfl rfl
  have g1 : w1.heap.size ≤ n3 := hW.fresh 1 rfl rfl
  have g2 : w1.heap.size ≤ n2 := hW.fresh 2 rfl rfl
  have g3 : w1.heap.size ≤ n1 := hW.fresh 3 rfl rfl
  have g4 : w1.heap.size ≤ n := hW.fresh 4 rfl rfl
  have gN : ∀ z ∈ [n3, n2, n1, n], w1.heap.size ≤ z := fun z hz => by
    simp only [List.mem_cons, List.not_mem_nil, or_false] at hz
    rcases hz with rfl | rfl | rfl | rfl <;> assumption
  have cons : ∀ {z : Nat} {ns : List Nat}, w1.heap.size ≤ z → (∀ y ∈ ns, w1.heap.size ≤ y) → ∀ y ∈ z :: ns, w1.heap.size ≤ y := fun hz hns y hy => by
    rcases List.mem_cons.1 hy with rfl | h
    · exact hz
    · exact hns y h
  have b7 : BY (k39 7) := k39_BY (by decide)
  have b3 : BY (k39 3) := k39_BY (by decide)
  have b1 : BY (k39 1) := k39_BY (by decide)
  have b2 : BY (k39 2) := k39_BY (by decide)
  have gk : kG.size ≤ 1073741824 := by decide
  refine ⟨(setMods_any q2 kG [k39 2, k39 1] (some ⟨n4, 0, none⟩) 2 hR (fun g o e => by cases e; exact block_lt c0) (fun m hm => (kml m hm).1) (hG' kT2)).mono fun e w3 ⟨he, ⟨q', hS, hq3⟩, k3⟩ => ?_⟩
  have hok3 := kq0_ok.setR kml hS
  obtain ⟨x, hx, rfl⟩ := kset_iff hS
  rw [k_set] at he
  refine ⟨_, he, kept k3 gN, ?_⟩
  have kT3 := fresh kT2 k3
  refine ⟨(submit_any hq3 hok3 (k39 7) b7 kG kX 10 (hG' kT3)).mono fun e w4 ⟨he, hq4, k4⟩ => ?_⟩
  have hok4 := hok3.sub (g := kG) (tx := kX) (now := 10) ⟨b7, k39_NZ (by decide) 7⟩
  rw [k_sub1 hx] at he
  rw [k_subQ1 hx] at hq4 hok4
  refine ⟨_, he, kept k4 gN, ?_⟩
  have kT4 := fresh kT3 k4
  refine ⟨(submit_any hq4 hok4 (k39 3) b3 kG kY 5 (hG' kT4)).mono fun e w5 ⟨he, hq5, k5⟩ => ?_⟩
  have hok5 := hok4.sub (g := kG) (tx := kY) (now := 5) ⟨b3, k39_NZ (by decide) 3⟩
  rw [k_sub2 hx] at he
  rw [k_subQ2 hx] at hq5 hok5
  refine ⟨_, he, kept k5 gN, ?_⟩
  have kT5 := fresh kT4 k5
  refine ⟨(claim_any hq5 hok5 (show (2 : Nat) ≤ 1000000 by decide) kG gk (k39 1) b1 20 (hG' kT5)).mono fun e w6 hC => ?_⟩
  have hC1 := k_clm hx 1 (.inl rfl) (es := [(kx, kex), (ky, key_)]) (by rw [k_sel1]; decide)
  rcases hC with ⟨h, _⟩ | ⟨_, s, hs, hmin, he, hq6, k6⟩
  · exact absurd hC1 h
  rw [k_sel1] at hs hmin
  obtain rfl := k_min hs hmin
  have hok6 := hok5.clm hq5.dis (P := clP kG (auI (k39 1)) 20) (x := key_.s) (a := k39 1) (now := 20) (by show key_.s ∈ isSel (kq x 2 [(kx, kex), (ky, key_)]) kG (auI (k39 1)) 20; rw [k_sel1]; exact hs) ⟨b1, k39_NZ (by decide) 1⟩ ⟨by decide, by decide⟩
  have e6 : ({ kq x 2 [(kx, kex), (ky, key_)] with es := aset (kq x 2 [(kx, kex), (ky, key_)]).es key_.s.ky ⟨key_.s, true, k39 1, 20⟩ } : Qu) = kq x 2 [(kx, kex), (ky, key2)] := by
    show kq x 2 (aset [(kx, kex), (ky, key_)] ky key2) = _
    rw [k_set1]
  rw [e6] at hq6 hok6
  refine ⟨_, _, _, _, _, _, _, _, _, he, kept k6 gN, fun n5 W7 hW7 => ?_⟩
  have kT6 := fresh kT5 k6
  have k7 : K0 w6 W7 := hW7.kk rfl
  have kT7 := kT6.trans k7
  have gn5 : w1.heap.size ≤ n5 := by
    have h1 : w6.heap.size ≤ n5 := hW7.fresh 0 rfl rfl
    have h2 := k2.size
    have h3 := k3.size
    have h4 := k4.size
    have h5 := k5.size
    have h6 := k6.size
    omega
  have gN5 := cons gn5 gN
  have hq7 := hq6.k0 k7
  refine ⟨(claim_any hq7 hok6 (show (2 : Nat) ≤ 1000000 by decide) kG gk (k39 1) b1 20 (hG' kT7)).mono fun e w8 hC => ?_⟩
  have hC2 := k_clm hx 1 (.inl rfl) (es := [(kx, kex), (ky, key2)]) (by rw [k_sel2]; decide)
  rcases hC with ⟨h, _⟩ | ⟨_, s, hs, hmin, he, hq8, k8⟩
  · exact absurd hC2 h
  rw [k_sel2] at hs hmin
  obtain rfl := k_min hs hmin
  have hok8 := hok6.clm hq7.dis (P := clP kG (auI (k39 1)) 20) (x := key_.s) (a := k39 1) (now := 20) (by show key_.s ∈ isSel (kq x 2 [(kx, kex), (ky, key2)]) kG (auI (k39 1)) 20; rw [k_sel2]; exact hs) ⟨b1, k39_NZ (by decide) 1⟩ ⟨by decide, by decide⟩
  have e8 : ({ kq x 2 [(kx, kex), (ky, key2)] with es := aset (kq x 2 [(kx, kex), (ky, key2)]).es key_.s.ky ⟨key_.s, true, k39 1, 20⟩ } : Qu) = kq x 2 [(kx, kex), (ky, key2)] := by
    show kq x 2 (aset [(kx, kex), (ky, key2)] ky key2) = _
    rw [k_set1]
  rw [e8] at hq8 hok8
  refine ⟨_, _, _, _, _, _, _, _, _, he, kept k8 gN5, fun n6 W9 hW9 => ?_⟩
  have kT8 := fresh kT7 k8
  have k9 : K0 w8 W9 := hW9.kk rfl
  have kT9 := kT8.trans k9
  have gn6 : w1.heap.size ≤ n6 := by
    have h1 : w8.heap.size ≤ n6 := hW9.fresh 0 rfl rfl
    have h2 := k2.size
    have h3 := k3.size
    have h4 := k4.size
    have h5 := k5.size
    have h6 := k6.size
    have h7 := k7.size
    have h8 := k8.size
    omega
  have gN6 := cons gn6 gN5
  have hq9 := hq8.k0 k9
  refine ⟨(claim_any hq9 hok8 (show (2 : Nat) ≤ 1000000 by decide) kG gk (k39 2) b2 20 (hG' kT9)).mono fun e w10 hC => ?_⟩
  have hC3 := k_clm hx 2 (.inr rfl) (es := [(kx, kex), (ky, key2)]) (by rw [k_sel3]; decide)
  rcases hC with ⟨h, _⟩ | ⟨_, s, hs, hmin, he, hq10, k10⟩
  · exact absurd hC3 h
  rw [k_sel3] at hs hmin
  obtain rfl : s = kex.s := by simpa using hs
  have hok10 := hok8.clm hq9.dis (P := clP kG (auI (k39 2)) 20) (x := kex.s) (a := k39 2) (now := 20) (by show kex.s ∈ isSel (kq x 2 [(kx, kex), (ky, key2)]) kG (auI (k39 2)) 20; rw [k_sel3]; exact hs) ⟨b2, k39_NZ (by decide) 2⟩ ⟨by decide, by decide⟩
  have e10 : ({ kq x 2 [(kx, kex), (ky, key2)] with es := aset (kq x 2 [(kx, kex), (ky, key2)]).es kex.s.ky ⟨kex.s, true, k39 2, 20⟩ } : Qu) = kq x 2 [(kx, kex2), (ky, key2)] := by
    show kq x 2 (aset [(kx, kex), (ky, key2)] kx kex2) = _
    rw [k_set2]
  rw [e10] at hq10 hok10
  refine ⟨_, _, _, _, _, _, _, _, _, he, kept k10 gN6, fun n7 W11 hW11 => ?_⟩
  have kT10 := fresh kT9 k10
  have k11 : K0 w10 W11 := hW11.kk rfl
  have kT11 := kT10.trans k11
  have gn7 : w1.heap.size ≤ n7 := by
    have h1 : w10.heap.size ≤ n7 := hW11.fresh 0 rfl rfl
    have h2 := k2.size
    have h3 := k3.size
    have h4 := k4.size
    have h5 := k5.size
    have h6 := k6.size
    have h7 := k7.size
    have h8 := k8.size
    have h9 := k9.size
    have h10 := k10.size
    omega
  have gN7 := cons gn7 gN6
  have hq11 := hq10.k0 k11
  refine ⟨(approve_any hq11 hok10 (show (2 : Nat) ≤ 10000 by decide) (k39 3) b3 kG gk (k39 2) b2 79).mono fun e w12 ⟨he, hq12, k12⟩ => ?_⟩
  rw [k_ap79 hx] at he
  rw [k_apQ79 hx] at hq12
  refine ⟨0, fun _ => 0, ⟨#[]⟩, 0, false, none, 0, 0, ⟨#[]⟩, 0, 0, fun _ => 0, 25, he, kept k12 gN7, fun n9 W13 hW13 => ?_⟩
  have kT12 := fresh kT11 k12
  have k13 : K0 w12 W13 := hW13.kk rfl
  have kT13 := kT12.trans k13
  have gn9 : w1.heap.size ≤ n9 := by
    have h1 : w12.heap.size ≤ n9 := hW13.fresh 0 rfl rfl
    have h2 := k2.size
    have h3 := k3.size
    have h4 := k4.size
    have h5 := k5.size
    have h6 := k6.size
    have h7 := k7.size
    have h8 := k8.size
    have h9 := k9.size
    have h10 := k10.size
    have h11 := k11.size
    have h12 := k12.size
    omega
  have gN9 := cons gn9 gN7
  have hq13 := hq12.k0 k13
  refine ⟨(approve_any hq13 hok10 (show (2 : Nat) ≤ 10000 by decide) (k39 3) b3 kG gk (k39 2) b2 80).mono fun e w14 ⟨he, hq14, k14⟩ => ?_⟩
  have hok14 : (apQ (kq x 2 [(kx, kex2), (ky, key2)]) (k39 3) kG (k39 2) 80 1 ⟨#[]⟩).OK := by
    unfold apQ
    rw [if_neg (by decide)]
    exact hok10.dec ⟨b2, k39_NZ (by decide) 2⟩ ⟨by decide, by decide⟩ ⟨by decide, by decide⟩ (by decide)
  rw [k_ap80 hx] at he
  rw [k_apQ80 hx] at hq14 hok14
  have kT14 := fresh kT13 k14
  refine ⟨2, k39 3, kG, 0, false, none, 0, 0, ⟨#[]⟩, 0, 0, fun _ => 0, 0, he, kept k14 gN9, fun n11 => ?_⟩
  refine ⟨k39 3, gimp_intro fun _ W15 hW15 => AtL_block (hW15.cells 4 rfl) rfl, true, gimp_intro fun _ => kidEq (by decide) (by decide) (by decide +kernel), kY, gimp_intro fun _ W15 hW15 => cell_at (hW15.cells 4 rfl) rfl,
    k39 3, gimp_intro fun _ W15 hW15 => AtL_block (hW15.cells 3 rfl) rfl, true, gimp_intro fun _ => kidEq (by decide) (by decide) (by decide +kernel),
    k39 7, gimp_intro fun _ W15 hW15 => AtL_block (hW15.cells 2 rfl) rfl, true, gimp_intro fun _ => kidEq (by decide) (by decide) (by decide +kernel),
    2, gimp_intro fun _ W15 hW15 => cell_at (hW15.cells 0 rfl) rfl, k39 3, gimp_intro fun _ W15 hW15 => AtL_block (hW15.cells 0 rfl) rfl, true, gimp_intro fun _ => kidEq (by decide) (by decide) (by decide +kernel), kG, gimp_intro fun _ W15 hW15 => cell_at (hW15.cells 0 rfl) rfl, fun W15 hW15 => ?_⟩
  have k15 : K0 w14 W15 := hW15.kk rfl
  have kT15 := kT14.trans k15
  refine bsp_intro (fun _ => ?_) (fun h => absurd h (by decide +kernel))
  refine ⟨(count_any (hq14.k0 k15) hok14 (show (2 : Nat) ≤ 1000000 by decide) kG 1 (hG' kT15)).mono fun e w16 ⟨he, k16⟩ => ⟨_, he, .of_k0 k16, ?_, kT15.trans k16⟩⟩
  show Ending.returned (.bool (true && (((selE (lsP kG 1) [(kx, kex2), (ky, key3)]).length : Nat) : Int) == 1)) = _
  rw [k_cnt]
  rfl

/-! ### New, Moderators -/
end Go.Proofs.YtfacflbmlfbeeaaGreatDoor

/- The formulas of functions by the symbolic evaluator, and that each gives the call's contract. Written by a program (gen.py). No condition. -/
namespace Go.Proofs.YtfacflbmlfbeeaaGreatDoor
set_option maxRecDepth 100000
set_option linter.unusedVariables false

def VC_lname (n : Int) (w : World) (R : Ending -> World -> Prop) : Prop := ∀ (n_1 : Nat) (W : World), Loc w.heap.size [Blk.mk n_1 9 [Value.string (ByteArray.mk #[103]), .string (ByteArray.mk #[103]), .string (ByteArray.mk #[97, 46, 98]), .string (ByteArray.mk #[103]), .string (ByteArray.mk #[104]), .string (ByteArray.mk #[]), .string (ByteArray.mk #[71])] 2] w W -> (0 <= n.tmod 7 /\ n.tmod 7 < (↑7 : Int)) /\ ∃ (x : ByteArray), W.cell? (Addr.mk n_1 (0 + (n.tmod 7).toNat) none) = some (.string x) /\ R (.returned (.string x)) W
theorem vc_lname (n : Int) (w : World) (R : Ending -> World -> Prop) (h : VC_lname n w R) : Calls Tryz.prog 30 ([Value.int .u8 n] : List Value).toArray w R :=
 calls_of_exec2' (loops := []) (tails := []) (joins := []) (boxes := []) (rngs := []) (c := Tryz.f30.body.getD .skip) pur1_ok Tryz.func30 (by kernel_rfl) (by kernel_rfl) h

def VC_lid (n : Int) (w : World) (R : Ending -> World -> Prop) : Prop := ∀ (n_1 : Nat) (W : World), Loc w.heap.size [Blk.mk n_1 32 [Value.int .u8 0, .int .u8 0, .int .u8 0, .int .u8 0, .int .u8 0, .int .u8 0, .int .u8 0, .int .u8 0, .int .u8 0, .int .u8 0, .int .u8 0, .int .u8 0, .int .u8 0, .int .u8 0, .int .u8 0, .int .u8 0, .int .u8 0, .int .u8 0, .int .u8 0, .int .u8 0, .int .u8 0, .int .u8 0, .int .u8 0, .int .u8 0, .int .u8 0, .int .u8 0, .int .u8 0, .int .u8 0, .int .u8 0, .int .u8 0, .int .u8 0, .int .u8 (n.tmod 6)] (wrM 2)] w W -> R (.returned (.agg #[.int .u8 0, .int .u8 0, .int .u8 0, .int .u8 0, .int .u8 0, .int .u8 0, .int .u8 0, .int .u8 0, .int .u8 0, .int .u8 0, .int .u8 0, .int .u8 0, .int .u8 0, .int .u8 0, .int .u8 0, .int .u8 0, .int .u8 0, .int .u8 0, .int .u8 0, .int .u8 0, .int .u8 0, .int .u8 0, .int .u8 0, .int .u8 0,
 .int .u8 0, .int .u8 0, .int .u8 0, .int .u8 0, .int .u8 0, .int .u8 0, .int .u8 0, .int .u8 (n.tmod 6)])) W
theorem vc_lid (n : Int) (w : World) (R : Ending -> World -> Prop) (h : VC_lid n w R) : Calls Tryz.prog 29 ([Value.int .u8 n] : List Value).toArray w R :=
 calls_of_exec2' (loops := []) (tails := []) (joins := []) (boxes := []) (rngs := []) (c := Tryz.f29.body.getD .skip) pur1_ok Tryz.func29 (by kernel_rfl) (by kernel_rfl) h

def VC_lauthor (n : Int) (w : World) (R : Ending -> World -> Prop) : Prop := ∀ (n_1 : Nat) (W : World), Loc w.heap.size [Blk.mk n_1 45 [Value.int .u8 0, .int .u8 0, .int .u8 0, .int .u8 0, .int .u8 0, .int .u8 0, .int .u8 0, .int .u8 0, .int .u8 0, .int .u8 0, .int .u8 0, .int .u8 0, .int .u8 0, .int .u8 0, .int .u8 0, .int .u8 (n.tmod 4)] (wrM 2)] w W -> R (.returned (.agg #[.int .u8 0, .int .u8 0, .int .u8 0, .int .u8 0, .int .u8 0, .int .u8 0, .int .u8 0, .int .u8 0, .int .u8 0, .int .u8 0, .int .u8 0, .int .u8 0, .int .u8 0, .int .u8 0, .int .u8 0, .int .u8 (n.tmod 4)])) W
theorem vc_lauthor (n : Int) (w : World) (R : Ending -> World -> Prop) (h : VC_lauthor n w R) : Calls Tryz.prog 20 ([Value.int .u8 n] : List Value).toArray w R :=
 calls_of_exec2' (loops := []) (tails := []) (joins := []) (boxes := []) (rngs := []) (c := Tryz.f20.body.getD .skip) pur1_ok Tryz.func20 (by kernel_rfl) (by kernel_rfl) h

end Go.Proofs.YtfacflbmlfbeeaaGreatDoor

/- Chapter 39: the contracts of the functions of a nil queue, of the law's name, id, author. No condition. -/
namespace Go.Proofs.YtfacflbmlfbeeaaGreatDoor
open Go.RowKit Go.Sort Go.Maps

/-! ### The law's own functions -/
def nmG (n : Int) : ByteArray := match (n.tmod 7).toNat with
  | 2 => ⟨#[97, 46, 98]⟩
  | 4 => ⟨#[104]⟩
  | 5 => ⟨#[]⟩
  | 6 => ⟨#[71]⟩
  | _ => ⟨#[103]⟩
theorem lname_any (n : Int) (hn : 0 ≤ n) (w : World) : Calls Tryz.prog 30 #[.int .u8 n] w fun e w' => e = .returned (.string (nmG n)) ∧ K0 w w' := by
  refine vc_lname n w _ (fun n1 W hW => ⟨?_, nmG n, ?_, rfl, hW.kk rfl⟩)
  · rw [Int.tmod_eq_emod_of_nonneg hn]; omega
  · have h7 : (n.tmod 7).toNat < 7 := by rw [Int.tmod_eq_emod_of_nonneg hn]; omega
    unfold nmG
    generalize (n.tmod 7).toNat = k at h7
    obtain rfl | rfl | rfl | rfl | rfl | rfl | rfl : k = 0 ∨ k = 1 ∨ k = 2 ∨ k = 3 ∨ k = 4 ∨ k = 5 ∨ k = 6 := by omega
    all_goals exact cell_at (hW.cells 0 rfl) rfl
def idN (n : Int) : Nat → Int := fun j => if j = 31 then n.tmod 6 else 0
def auN (n : Int) : Nat → Int := fun j => if j = 15 then n.tmod 4 else 0
theorem idN_ok {n : Int} (hn : 0 ≤ n) : BY (idN n) ∧ NZ 32 (idN n) := by
  refine ⟨fun j => ?_, fun j hj => ?_⟩
  · unfold idN
    rw [Int.tmod_eq_emod_of_nonneg hn]
    split <;> omega
  · unfold idN
    rw [if_neg (by omega)]
theorem auN_ok {n : Int} (hn : 0 ≤ n) : BY (auN n) ∧ NZ 16 (auN n) := by
  refine ⟨fun j => ?_, fun j hj => ?_⟩
  · unfold auN
    rw [Int.tmod_eq_emod_of_nonneg hn]
    split <;> omega
  · unfold auN
    rw [if_neg (by omega)]
theorem lid_any (n : Int) (w : World) : Calls Tryz.prog 29 #[.int .u8 n] w fun e w' => e = .returned (.agg (arrI .u8 (idN n) 32 0).toArray) ∧ K0 w w' :=
  vc_lid n w _ (fun _ _ hW => ⟨rfl, hW.k0 (.refl _ _)⟩)
theorem lauthor_any (n : Int) (w : World) : Calls Tryz.prog 20 #[.int .u8 n] w fun e w' => e = .returned (.agg (arrI .u8 (auN n) 16 0).toArray) ∧ K0 w w' :=
  vc_lauthor n w _ (fun _ _ hW => ⟨rfl, hW.k0 (.refl _ _)⟩)

end Go.Proofs.YtfacflbmlfbeeaaGreatDoor

/- Chapter 39: the queue and the model side by side in the memory. -/
namespace Go.Proofs.YtfacflbmlfbeeaaGreatDoor
open Go.RowKit Go.Sort Go.Maps

/-- Both, made behind the world w0. -/
structure SW (w0 w : World) (b mb eb m : Nat) (q : Qu) (M : Mo) (P : Pl) : Prop where
  mq : Mq w b mb eb q
  qs : QSep w q
  mr : MoR w w0.heap.size m M P
  k : K0 w0 w
  gb : w0.heap.size ≤ b
  gm : w0.heap.size ≤ mb
  ge : w0.heap.size ≤ eb
section
variable {w0 w w' : World} {b mb eb m : Nat} {q q' : Qu} {M M' : Mo} {P P' : Pl}
theorem SW.k0 (h : SW w0 w b mb eb m q M P) (hk : K0 w w') : SW w0 w' b mb eb m q M P := ⟨h.mq.k0 hk, h.qs.k0 hk, h.mr.k0 hk, h.k.trans hk, h.gb, h.gm, h.ge⟩
theorem SW.qb (h : SW w0 w b mb eb m q M P) (hk : Kp (QB b mb eb) w w') : K0 w0 w' := h.k.fresh hk (fun i hi e => by
  have h1 := h.gb
  have h2 := h.gm
  have h3 := h.ge
  rcases e with e | e | e <;> omega)
theorem SW.mf (h : SW w0 w b mb eb m q M P) (hk : Kp (MF w w0.heap.size) w w') : K0 w0 w' := h.k.fresh hk (fun i hi e => by have := e.1; omega)
theorem SW.qopS (h : SW w0 w b mb eb m q M P) (hm : Mq w' b mb eb q') (hs : QSep w' q') (hk : Kp (QB b mb eb) w w') : SW w0 w' b mb eb m q' M P := ⟨hm, hs, h.mr.qb h.mq hk, h.qb hk, h.gb, h.gm, h.ge⟩
theorem SW.qop (h : SW w0 w b mb eb m q M P) (hm : Mq w' b mb eb q') (hk : Kp (QB b mb eb) w w') (he : q'.ms = q.ms) : SW w0 w' b mb eb m q' M P := h.qopS hm (fun g x hx => (h.qs.qb h.mq hk) g x (by rw [← he]; exact hx)) hk
theorem SW.mop (h : SW w0 w b mb eb m q M P) (hr : MoR w' w0.heap.size m M' P') (hk : Kp (MF w w0.heap.size) w w') : SW w0 w' b mb eb m q M' P' := ⟨h.mq.mf h.qs hk, h.qs.mf hk, hr, h.mf hk, h.gb, h.gm, h.ge⟩
theorem SW.qk (h : SW w0 w b mb eb m q M P) (hk : Kp (QB b mb eb) w w') {ns : List Nat} (hn : ∀ n ∈ ns, ∃ c t f, w.heap[n]? = some (.cells c t f) ∧ (t == 98) = false) : KeptL ns w w' := h.mq.kept hk (fun _ h => h) hn
theorem SW.gw (h : SW w0 w b mb eb m q M P) (hG : GW w0) : GW w := hG.kp h.k (fun h => h)
end
theorem subQ_ms (q : Qu) (id : Nat → Int) (g tx : ByteArray) (now : Int) : (subQ q id g tx now).ms = q.ms := by unfold subQ; split <;> rfl
theorem relQ_ms (q : Qu) (id : Nat → Int) (g : ByteArray) (a : Nat → Int) (now : Int) : (relQ q id g a now).ms = q.ms := by unfold relQ; split <;> rfl
theorem decQ_ms (q : Qu) (id : Nat → Int) (g : ByteArray) (a : Nat → Int) (now st : Int) (rs : ByteArray) : (decQ q id g a now st rs).ms = q.ms := by unfold decQ; split <;> rfl
theorem apQ_ms (q : Qu) (id : Nat → Int) (g : ByteArray) (a : Nat → Int) (now st : Int) (rs : ByteArray) : (apQ q id g a now st rs).ms = q.ms := by unfold apQ; split; rfl; exact decQ_ms ..
theorem rejQ_ms (q : Qu) (id : Nat → Int) (g : ByteArray) (a : Nat → Int) (rs : ByteArray) (now : Int) : (rejQ q id g a rs now).ms = q.ms := by
  unfold rejQ
  repeat' split
  all_goals first | rfl | exact decQ_ms ..
theorem delA_ms : ∀ (L : List Sb) (q : Qu), (delA q L).ms = q.ms
  | [], _ => rfl
  | x :: L, q => (delA_ms L { q with es := adel q.es x.ky }).trans rfl
theorem nmG_sz (n : Int) : (nmG n).size ≤ 1073741824 := by
  unfold nmG
  repeat' split
  all_goals decide
/-! ### What an operation does to the model -/
def txO (t : ByteArray) : ByteArray := t.extract 0 (min t.size 300)
def auK (i a k : Int) : Nat → Int := fun j => if j = 15 then (IntKind.u8.wrap (i * k + a)).tmod 10 else 0
theorem auK_ok (i a k : Int) : BY (auK i a k) ∧ NZ 16 (auK i a k) := by
  refine ⟨fun j => ?_, fun j hj => ?_⟩
  · unfold auK
    split
    · have h : 0 ≤ IntKind.u8.wrap (i * k + a) := by unfold IntKind.wrap; simp [IntKind.bits, IntKind.signed]; omega
      rw [Int.tmod_eq_emod_of_nonneg h]
      omega
    · omega
  · unfold auK
    rw [if_neg (by omega)]
def moL (i a : Int) : List (Nat → Int) := (List.range (a.tmod 12).toNat).map fun k : Nat => auK i a (k : Int)
theorem moL_ok {i a : Int} : ∀ z ∈ moL i a, BY z ∧ NZ 16 z := fun z hz => by
  obtain ⟨k, _, rfl⟩ := List.mem_map.1 hz
  exact auK_ok ..
noncomputable def stpM (k i g a now : Int) (t : ByteArray) (M M' : Mo) : Prop :=
  match (k.tmod 8).toNat with
  | 0 => (xsubE M (idN i) (nmG g) (txO t) now = 0 ∧ ∃ L : List En, L.Perm (newE (idN i) (nmG g) (txO t) now :: M.es) ∧ M' = { M with es := L }) ∨ (xsubE M (idN i) (nmG g) (txO t) now ≠ 0 ∧ M' = M)
  | 1 => M' = xclM M (nmG g) (auN a) now
  | 2 => M' = xrlM M (idI (idN i), nmG g) (auN a) now
  | 3 => M' = xdcM M (idN i) (nmG g) (auN a) 1 ⟨#[]⟩ now
  | 4 => M' = xdcM M (idN i) (nmG g) (auN a) 2 (txO t) now
  | 5 => M' = xlpM M now
  | 6 => M' = { M with es := M.es.filter (kpP now) }
  | _ => (setE (nmG g) (moL i a) = 0 ∧ ∃ X : MX, X.l.Perm (moL i a) ∧ (X.l.Pairwise fun x y => cfA x y < 0) ∧ M' = { M with gs := gset M.gs (nmG g) X }) ∨ (setE (nmG g) (moL i a) ≠ 0 ∧ M' = M)

end Go.Proofs.YtfacflbmlfbeeaaGreatDoor

/- Chapter 39, plain: what an operation leaves of the entries; leases, lapses. No program in sight but in the definitions. -/
namespace Go.Proofs.YtfacflbmlfbeeaaGreatDoor
open Go.RowKit Go.Sort Go.Maps

/-! ### What an operation changes -/
def ws (M : Mo) : Nat := (M.ls ⟨#[]⟩ 0).length
theorem lsP_e (st : Int) (x : En) : lsP ⟨#[]⟩ st x = (x.s.st == st) := by unfold lsP; simp
theorem ws_eq (M : Mo) : ws M = (M.es.filter fun x => x.s.st == 0).length := by
  unfold ws Mo.ls
  rw [List.length_map, show lsP ⟨#[]⟩ 0 = fun x => x.s.st == 0 from funext fun x => lsP_e 0 x]
def Chg (k g a : Int) (M : Mo) (y y' : En) : Prop :=
  (y'.s = y.s ∧ (y'.ho = y.ho ∨ y'.ho = auN a ∨ y'.ho = fun _ => 0)) ∨
  (y.s.st = 0 ∧ y'.ho = (fun _ => 0) ∧ y'.s.ky = y.s.ky ∧ ((k.tmod 8 = 5 ∧ y'.s.st = 3 ∧ y'.s.mo = fun _ => 0) ∨ ((y'.s.st = 1 ∨ y'.s.st = 2) ∧ y'.s.mo = auN a ∧ y.s.g = nmG g ∧ isMB (M.md (nmG g)) (auN a) = true)))
section
variable {k i g a now : Int} {t : ByteArray} {M M' : Mo}
theorem Chg.refl {y : En} : Chg k g a M y y := .inl ⟨rfl, .inl rfl⟩
theorem Chg.st {y y' : En} (h : Chg k g a M y y') (h0 : y'.s.st = 0) : y.s.st = 0 := by
  rcases h with ⟨e, _⟩ | ⟨e, _⟩
  · rw [← e]; exact h0
  · exact e
theorem Chg.ky {y y' : En} (h : Chg k g a M y y') : y'.s.ky = y.s.ky := by
  rcases h with ⟨e, _⟩ | ⟨_, _, e, _⟩
  · rw [e]
  · exact e
theorem chg_up {c : Ky} {f : En → En} (h : ∀ y ∈ M.es, y.s.ky = c → Chg k g a M y (f y)) : ∃ G : En → En, M.up c f = { M with es := M.es.map G } ∧ ∀ y ∈ M.es, Chg k g a M y (G y) :=
  ⟨fun y => if y.s.ky = c then f y else y, rfl, fun y hy => by
    simp only
    split
    · rename_i e; exact h y hy e
    · exact .refl⟩
theorem chg_no : ∃ G : En → En, M = { M with es := M.es.map G } ∧ ∀ y ∈ M.es, Chg k g a M y (G y) := ⟨id, by rw [List.map_id], fun _ _ => .refl⟩
theorem xdc_some {id : Nat → Int} {g : ByteArray} {a : Nat → Int} {st : Int} {rs : ByteArray} (h : xdcE M id g a st rs now = 0) : isMB (M.md g) a = true ∧ ∃ y, M.fd (idI id, g) = some y ∧ y.s.st = 0 := by
  unfold xdcE at h
  split at h
  · exact absurd h (by decide)
  split at h
  · exact absurd h (by decide)
  split at h
  · exact absurd h (by decide)
  split at h
  · exact absurd h (by decide)
  rename_i hm
  have hm : isMB (M.md g) a = true := by simpa using hm
  cases hf : M.fd (idI id, g) with
  | none => simp only [hf] at h; exact absurd h (by decide)
  | some y =>
    simp only [hf] at h
    refine ⟨hm, y, rfl, ?_⟩
    split at h
    · exact absurd h (by decide)
    · rename_i h0; simpa using h0
theorem xdc_chg {st : Int} {rs : ByteArray} (hd : DisK M.es) (hst : st = 1 ∨ st = 2) : ∃ G : En → En, xdcM M (idN i) (nmG g) (auN a) st rs now = { M with es := M.es.map G } ∧ ∀ y ∈ M.es, Chg k g a M y (G y) := by
  unfold xdcM
  split
  · rename_i h0
    obtain ⟨hm, u, hu, h0⟩ := xdc_some h0
    refine chg_up fun y hy hk => ?_
    have hyu : y = u := by
      have h1 := (fd_iff hd).2 ⟨hy, hk⟩
      have hu : fdL M.es (idI (idN i), nmG g) = some u := hu
      rw [h1] at hu
      cases hu; rfl
    subst hyu
    exact .inr ⟨h0, rfl, rfl, .inr ⟨hst, rfl, (Prod.mk.inj hk).2, hm⟩⟩
  · exact chg_no
theorem stp_cases (hd : DisK M.es) (h : stpM k i g a now t M M') :
    (xsubE M (idN i) (nmG g) (txO t) now = 0 ∧ ∃ L : List En, L.Perm (newE (idN i) (nmG g) (txO t) now :: M.es) ∧ M' = { M with es := L }) ∨
    (∃ G : En → En, M' = { M with es := M.es.map G } ∧ ∀ y ∈ M.es, Chg k g a M y (G y)) ∨
    (k.tmod 8 = 6 ∧ ∃ P : En → Bool, M' = { M with es := M.es.filter P } ∧ ∀ y ∈ M.es, P y = false → y.s.st ≠ 0) ∨
    (∃ gs, M' = { M with gs := gs }) := by
  unfold stpM at h
  split at h
  · rcases h with ⟨h1, L, h2, h3⟩ | ⟨_, h⟩
    · exact .inl ⟨h1, L, h2, h3⟩
    · subst h; exact .inr (.inl chg_no)
  · subst h
    refine .inr (.inl ?_)
    unfold xclM
    split
    · exact chg_up fun y _ _ => .inl ⟨rfl, .inr (.inl rfl)⟩
    · exact chg_no
  · subst h
    refine .inr (.inl ?_)
    unfold xrlM
    split
    · exact chg_up fun y _ _ => .inl ⟨rfl, .inr (.inr rfl)⟩
    · exact chg_no
  · subst h
    exact .inr (.inl (xdc_chg hd (.inl rfl)))
  · subst h
    exact .inr (.inl (xdc_chg hd (.inr rfl)))
  · rename_i hk
    subst h
    refine .inr (.inl ?_)
    unfold xlpM
    split
    · refine ⟨_, rfl, fun y hy => ?_⟩
      unfold lpF
      split
      · rename_i hl
        refine .inr ⟨?_, rfl, rfl, .inl ⟨by omega, rfl, rfl⟩⟩
        unfold lapP at hl
        simp at hl
        exact hl.1
      · exact .refl
    · exact chg_no
  · rename_i hk
    subst h
    refine .inr (.inr (.inl ⟨by omega, _, rfl, fun y _ hp => ?_⟩))
    unfold kpP at hp
    simp at hp
    exact hp.1
  · rcases h with ⟨_, X, _, _, h⟩ | ⟨_, h⟩
    · exact .inr (.inr (.inr ⟨_, h⟩))
    · subst h; exact .inr (.inl chg_no)

/-! ### How many wait -/
theorem ws_map {G : En → En} : ∀ {es : List En}, (∀ y ∈ es, (G y).s.st = 0 → y.s.st = 0) → ((es.map G).filter fun x => x.s.st == 0).length ≤ (es.filter fun x => x.s.st == 0).length
  | [], _ => Nat.le_refl _
  | y :: es, h => by
    have ih := ws_map (es := es) fun z hz => h z (List.mem_cons_of_mem _ hz)
    rw [List.map_cons, List.filter_cons, List.filter_cons]
    have hy := h y List.mem_cons_self
    by_cases h1 : (G y).s.st = 0
    · rw [if_pos (by simpa using h1), if_pos (by simpa using hy h1)]
      simp only [List.length_cons]; omega
    · rw [if_neg (by simpa using h1)]
      split
      · simp only [List.length_cons]; omega
      · exact ih
theorem xsub_room {id : Nat → Int} {g tx : ByteArray} (h0 : xsubE M id g tx now = 0) : ¬ M.room ≤ ((M.ls ⟨#[]⟩ 0).length : Nat) := by
  intro hr
  unfold xsubE at h0
  split at h0
  · exact absurd h0 (by decide)
  split at h0
  · rename_i hg; exact hg h0
  split at h0
  · exact absurd h0 (by decide)
  split at h0
  · exact absurd h0 (by decide)
  split at h0
  · exact absurd h0 (by decide)
  exact absurd h0 (by decide)
theorem ws_ins {id : Nat → Int} {g tx : ByteArray} {L : List En} (h0 : xsubE M id g tx now = 0) (hp : L.Perm (newE id g tx now :: M.es)) : (ws { M with es := L } : Int) ≤ M.room := by
  have h1 := xsub_room h0
  have h2 : ¬ M.room ≤ (ws M : Int) := h1
  have h3 : ws { M with es := L } = ws M + 1 := by
    rw [ws_eq, ws_eq]
    show (L.filter _).length = _
    rw [(hp.filter _).length_eq, List.filter_cons, if_pos (by rfl)]
    rfl
  omega
theorem ws_step (hd : DisK M.es) (h : stpM k i g a now t M M') (hw : (ws M : Int) ≤ M.room) : M'.room = M.room ∧ M'.days = M.days ∧ (ws M' : Int) ≤ M.room := by
  rcases stp_cases hd h with ⟨h0, L, hp, rfl⟩ | ⟨G, rfl, hG⟩ | ⟨_, P, rfl, hP⟩ | ⟨gs, rfl⟩
  · exact ⟨rfl, rfl, ws_ins h0 hp⟩
  · refine ⟨rfl, rfl, ?_⟩
    have : ws { M with es := M.es.map G } ≤ ws M := by
      rw [ws_eq, ws_eq]
      exact ws_map fun y hy => (hG y hy).st
    omega
  · refine ⟨rfl, rfl, ?_⟩
    have : ws { M with es := M.es.filter P } ≤ ws M := by
      rw [ws_eq, ws_eq]
      exact (List.filter_sublist.filter _).length_le
    omega
  · exact ⟨rfl, rfl, hw⟩

/-! ### What is decided stays -/
theorem dec_old (hd : DisK M.es) (hd' : DisK M'.es) (h : stpM k i g a now t M M') {y : En} (hy : y ∈ M.es) (hs : y.s.st ≠ 0) :
    (∃ z, fdL M'.es y.s.ky = some z ∧ z.s = y.s) ∨ (fdL M'.es y.s.ky = none ∧ k.tmod 8 = 6) := by
  rcases stp_cases hd h with ⟨h0, L, hp, rfl⟩ | ⟨G, rfl, hG⟩ | ⟨hk, P, rfl, hP⟩ | ⟨gs, rfl⟩
  · exact .inl ⟨y, (fd_iff hd').2 ⟨hp.symm.subset (List.mem_cons_of_mem _ hy), rfl⟩, rfl⟩
  · rcases hG y hy with ⟨e, _⟩ | ⟨e, _⟩
    · exact .inl ⟨G y, (fd_iff hd').2 ⟨List.mem_map.2 ⟨y, hy, rfl⟩, by rw [e]⟩, e⟩
    · exact absurd e hs
  · cases hp : P y with
    | true => exact .inl ⟨y, (fd_iff hd').2 ⟨List.mem_filter.2 ⟨hy, hp⟩, rfl⟩, rfl⟩
    | false =>
      refine .inr ⟨?_, hk⟩
      cases hf : fdL (M.es.filter P) y.s.ky with
      | none => rfl
      | some z =>
        have hz := (fd_iff hd').1 hf
        have hz1 := List.mem_filter.1 hz.1
        have e1 := (fd_iff hd).2 ⟨hz1.1, hz.2⟩
        have e2 := (fd_iff hd).2 ⟨hy, rfl⟩
        rw [e1] at e2
        cases e2
        rw [hp] at hz1
        exact absurd hz1.2 (by decide)
  · exact .inl ⟨y, (fd_iff hd).2 ⟨hy, rfl⟩, rfl⟩
theorem dec_new (hd : DisK M.es) (h : stpM k i g a now t M M') {z : En} (hz : z ∈ M'.es) (hs : z.s.st ≠ 0) :
    (∃ y ∈ M.es, y.s = z.s) ∨ (z.s.st = 3 ∧ k.tmod 8 = 5 ∧ z.s.mo = fun _ => 0) ∨ (z.s.st ≠ 3 ∧ isMB (M'.md z.s.g) z.s.mo = true) := by
  rcases stp_cases hd h with ⟨h0, L, hp, rfl⟩ | ⟨G, rfl, hG⟩ | ⟨hk, P, rfl, hP⟩ | ⟨gs, rfl⟩
  · rcases List.mem_cons.1 (hp.subset hz) with rfl | hz
    · exact absurd rfl hs
    · exact .inl ⟨z, hz, rfl⟩
  · obtain ⟨y, hy, rfl⟩ := List.mem_map.1 hz
    have hc := hG y hy
    rcases hc with ⟨e, _⟩ | ⟨_, _, hk, ⟨h1, h2, h3⟩ | ⟨h1, h2, h3, h4⟩⟩
    · exact .inl ⟨y, hy, e.symm⟩
    · exact .inr (.inl ⟨h2, h1, h3⟩)
    · refine .inr (.inr ⟨by omega, ?_⟩)
      have eg : (G y).s.g = y.s.g := (Prod.mk.inj hk).2
      show isMB (M.md (G y).s.g) _ = true
      rw [eg, h3, h2]
      exact h4
  · exact .inl ⟨z, (List.mem_filter.1 hz).1, rfl⟩
  · exact .inl ⟨z, hz, rfl⟩

/-! ### Who holds -/
def HoI (M : Mo) : Prop := ∀ y ∈ M.es, ∃ b, y.ho = auN b
theorem auN_0 : auN 0 = fun _ => 0 := by
  funext j
  unfold auN
  split <;> rfl
theorem ho_step (hd : DisK M.es) (h : stpM k i g a now t M M') (hI : HoI M) : HoI M' := by
  rcases stp_cases hd h with ⟨h0, L, hp, rfl⟩ | ⟨G, rfl, hG⟩ | ⟨_, P, rfl, hP⟩ | ⟨gs, rfl⟩
  · intro y hy
    rcases List.mem_cons.1 (hp.subset hy) with rfl | hy
    · exact ⟨0, auN_0.symm⟩
    · exact hI y hy
  · intro z hz
    obtain ⟨y, hy, rfl⟩ := List.mem_map.1 hz
    rcases hG y hy with ⟨_, e | e | e⟩ | ⟨_, e, _⟩
    · rw [e]; exact hI y hy
    · exact ⟨a, e⟩
    · exact ⟨0, by rw [e, auN_0]⟩
    · exact ⟨0, by rw [e, auN_0]⟩
  · intro y hy
    exact hI y (List.mem_filter.1 hy).1
  · exact hI
end

/-! ### Leases, one after another -/
def A1 (j : Int) : Nat → Int := fun n => if n = 1 then j else 0
theorem A1_ne {j : Int} {f : Nat → Int} (h : f 1 ≠ j) : auI f ≠ auI (A1 j) := fun e => by
  have h1 := congrArg (fun l : List Int => l[1]?) e
  simp [auI, A1] at h1
  exact h h1
structure LeI (i : Int) (now : Int) (g : ByteArray) (M : Mo) (got : List Sb) : Prop where
  ho : ∀ y ∈ M.es, y.ho 1 ≤ i
  bk : ∀ s, got.getLast? = some s → ∀ y ∈ M.es, y.s.g = g → y.s.st = 0 → ¬ cfM s y.s < 0 → inE y now = true
  srt : M.es.Pairwise fun x y => cfM x.s y.s < 0
  dis : DisK M.es
theorem LeI.z {now : Int} {g : ByteArray} {M : Mo} (h : HoI M) (hs : M.es.Pairwise fun x y => cfM x.s y.s < 0) (hd : DisK M.es) : LeI 0 now g M [] := ⟨fun y hy => by
  obtain ⟨b, e⟩ := h y hy
  rw [e]
  show (if 1 = 15 then b.tmod 4 else 0) ≤ _
  rw [if_neg (by decide)]
  exact Int.le_refl _, fun s h => (by cases h), hs, hd⟩
theorem LeI.step {i now : Int} {g : ByteArray} {M : Mo} {got : List Sb} (h : LeI i now g M got) (h0 : xclE M g (A1 (i + 1)) now = 0) :
    (xclS M g (A1 (i + 1)) now).st = 0 ∧ (xclS M g (A1 (i + 1)) now).g = g ∧ (∀ s, got.getLast? = some s → cfM s (xclS M g (A1 (i + 1)) now) < 0) ∧ LeI (i + 1) now g (xclM M g (A1 (i + 1)) now) (got ++ [xclS M g (A1 (i + 1)) now]) ∧
      fdL (xclM M g (A1 (i + 1)) now).es (xclS M g (A1 (i + 1)) now).ky = some ⟨xclS M g (A1 (i + 1)) now, true, A1 (i + 1), now⟩ := by
  have hb : ∀ y ∈ M.es, blk y (auI (A1 (i + 1))) now = inE y now := fun y hy => by
    unfold blk
    rw [show decide (auI y.ho = auI (A1 (i + 1))) = false from decide_eq_false (A1_ne (by have := h.ho y hy; omega))]
    simp
  cases hf : M.es.find? (clP g (auI (A1 (i + 1))) now) with
  | none =>
    unfold xclE at h0
    simp only [hf] at h0
    split at h0
    · exact absurd h0 (by decide)
    · split at h0
      · exact absurd h0 (by decide)
      · exact absurd h0 (by decide)
  | some e =>
    have em := List.mem_of_find?_eq_some hf
    have ep := List.find?_some hf
    have eS : xclS M g (A1 (i + 1)) now = e.s := by unfold xclS; rw [if_pos h0, hf]; rfl
    have eM : xclM M g (A1 (i + 1)) now = M.up e.s.ky (fun y => ⟨y.s, true, A1 (i + 1), now⟩) := by unfold xclM; rw [if_pos h0, eS]
    have ep2 : (e.s.g = g ∧ e.s.st = 0) ∧ inE e now = false := by
      unfold clP at ep
      rw [hb e em] at ep
      simpa using ep
    obtain ⟨_, l1, bs, hes, has⟩ := List.find?_eq_some_iff_append.1 hf
    rw [eS, eM]
    have hky : ∀ y ∈ M.es, y.s.ky = e.s.ky → y = e := fun y hy hk => by
      have e1 := (fd_iff h.dis).2 ⟨hy, hk⟩
      have e2 := (fd_iff h.dis).2 ⟨em, rfl⟩
      rw [e1] at e2
      cases e2; rfl
    have hdis : DisK (M.up e.s.ky (fun y => ⟨y.s, true, A1 (i + 1), now⟩)).es := by
      refine List.pairwise_map.2 (h.dis.imp fun {x y} hxy => ?_)
      have e1 : ∀ z : En, (if z.s.ky = e.s.ky then (⟨z.s, true, A1 (i + 1), now⟩ : En) else z).s = z.s := fun z => by split <;> rfl
      rw [e1, e1]; exact hxy
    refine ⟨ep2.1.2, ep2.1.1, fun s hs => Classical.byContradiction fun hn => ?_, ⟨fun z hz => ?_, fun s hs z hz hg hst hc => ?_, ?_, hdis⟩, ?_⟩
    · have := h.bk s hs e em ep2.1.1 ep2.1.2 hn
      rw [this] at ep2
      exact absurd ep2.2 (by decide)
    · obtain ⟨y, hy, rfl⟩ := List.mem_map.1 hz
      split
      · show (if 1 = 1 then i + 1 else 0) ≤ _
        rw [if_pos rfl]; exact Int.le_refl _
      · have := h.ho y hy
        omega
    · rw [List.getLast?_append] at hs
      simp at hs
      subst hs
      obtain ⟨y, hy, rfl⟩ := List.mem_map.1 hz
      split
      · unfold inE
        simp
      · rename_i hne
        have e1 : (if y.s.ky = e.s.ky then (⟨y.s, true, A1 (i + 1), now⟩ : En) else y) = y := if_neg hne
        rw [e1] at hg hst hc
        have hy2 := hy
        rw [hes] at hy2
        rcases List.mem_append.1 hy2 with hm | hm
        · have := has y hm
          unfold clP at this
          rw [hb y hy] at this
          simp only [hg, hst, decide_true, Bool.true_and, Bool.not_not, beq_self_eq_true] at this
          exact this
        · rcases List.mem_cons.1 hm with rfl | hm
          · exact absurd rfl hne
          · have hs2 := h.srt
            rw [hes, List.pairwise_append] at hs2
            exact absurd ((List.pairwise_cons.1 hs2.2.1).1 y hm) hc
    · refine List.pairwise_map.2 (h.srt.imp fun {x y} hxy => ?_)
      have e1 : ∀ z : En, (if z.s.ky = e.s.ky then (⟨z.s, true, A1 (i + 1), now⟩ : En) else z).s = z.s := fun z => by split <;> rfl
      rw [e1, e1]; exact hxy
    · exact (fd_iff hdis).2 ⟨List.mem_map.2 ⟨e, em, if_pos rfl⟩, rfl⟩

/-! ### Lapses -/
end Go.Proofs.YtfacflbmlfbeeaaGreatDoor
