/- The formulas of functions by the symbolic evaluator, and that each gives the call's contract. Written by a program (gen.py). No condition. -/
import Derived.Test.YtfacflbmlfbeeaaGreatDoorProg
import Derived.Test.YtfacflbmlfbeeaaGreatDoorZ02
import Derived.Test.YtfacflbmlfbeeaaGreatDoorZ04
import Derived.Test.YtfacflbmlfbeeaaGreatDoorZ03
import Derived.KernelRfl
import Derived.Test.YtfacflbmlfbeeaaGreatDoorZ10
import Derived.Test.YtfacflbmlfbeeaaGreatDoorZ08
import Derived.Test.YtfacflbmlfbeeaaGreatDoorZ09
namespace Go.Proofs.YtfacflbmlfbeeaaGreatDoor
set_option maxRecDepth 100000
set_option linter.unusedVariables false

def VC_lknown (w : World) (R : Ending -> World -> Prop) : Prop := CallsS Tryz.prog 13 #[.int .i64 5, .int .i64 14] w fun (e : Ending) (w' : World) => ∃ (x : Option Addr) (x_1 : Int), e = .returned (.tuple #[.pointer x, .int .i64 x_1]) /\ KeptL [] w w' /\ bsp (x_1 != 0 || x.isNone) (R (.returned (.bool false)) w') (∀ (n n_1 n_2 n_3 n_4 : Nat) (W : World), Loc w.heap.size [Blk.mk n_4 45 [Value.int .u8 2, .int .u8 0, .int .u8 0, .int .u8 0, .int .u8 0, .int .u8 0, .int .u8 0, .int .u8 0, .int .u8 0, .int .u8 0, .int .u8 0, .int .u8 0, .int .u8 0, .int .u8 0, .int .u8 0, .int .u8 0, .int .u8 1, .int .u8 0, .int .u8 0, .int .u8 0, .int .u8 0, .int .u8 0, .int .u8 0, .int .u8 0, .int .u8 0, .int .u8 0, .int .u8 0, .int .u8 0, .int .u8 0, .int .u8 0, .int .u8 0, .int .u8 0] 2, Blk.mk n_3 32 [Value.int .u8 3, .int .u8 0, .int .u8 0, .int .u8 0, .int .u8 0, .int .u8 0, .int .u8 0, .int .u8 0,
 .int .u8 0, .int .u8 0, .int .u8 0, .int .u8 0, .int .u8 0, .int .u8 0, .int .u8 0, .int .u8 0, .int .u8 0, .int .u8 0, .int .u8 0, .int .u8 0, .int .u8 0, .int .u8 0, .int .u8 0, .int .u8 0, .int .u8 0, .int .u8 0, .int .u8 0, .int .u8 0, .int .u8 0, .int .u8 0, .int .u8 0, .int .u8 0] (wrM 2), Blk.mk n_2 32 [Value.int .u8 7, .int .u8 0, .int .u8 0, .int .u8 0, .int .u8 0, .int .u8 0, .int .u8 0, .int .u8 0, .int .u8 0, .int .u8 0, .int .u8 0, .int .u8 0, .int .u8 0, .int .u8 0, .int .u8 0, .int .u8 0, .int .u8 0, .int .u8 0, .int .u8 0, .int .u8 0, .int .u8 0, .int .u8 0, .int .u8 0, .int .u8 0, .int .u8 0, .int .u8 0, .int .u8 0, .int .u8 0, .int .u8 0, .int .u8 0, .int .u8 0, .int .u8 0] (wrM 2), Blk.mk n_1 45 [Value.int .u8 2, .int .u8 0, .int .u8 0, .int .u8 0, .int .u8 0, .int .u8 0, .int .u8 0, .int .u8 0, .int .u8 0, .int .u8 0, .int .u8 0, .int .u8 0,
 .int .u8 0, .int .u8 0, .int .u8 0, .int .u8 0] (wrM 2), Blk.mk n 45 [Value.int .u8 1, .int .u8 0, .int .u8 0, .int .u8 0, .int .u8 0, .int .u8 0, .int .u8 0, .int .u8 0, .int .u8 0, .int .u8 0, .int .u8 0, .int .u8 0, .int .u8 0, .int .u8 0, .int .u8 0, .int .u8 0] (wrM 2)] w' W -> CallsS Tryz.prog 38 #[.pointer x, .string (ByteArray.mk #[103]), .slice (some (Addr.mk n_4 0 none)) 2 2] W fun (e : Ending) (w' : World) => ∃ (x_2 : Int), e = .returned (.int .i64 x_2) /\ KeptL [n_3, n_2, n_1, n] W w' /\ CallsS Tryz.prog 18 #[.pointer x, .agg #[.int .u8 7, .int .u8 0, .int .u8 0, .int .u8 0, .int .u8 0, .int .u8 0, .int .u8 0, .int .u8 0, .int .u8 0, .int .u8 0, .int .u8 0, .int .u8 0, .int .u8 0, .int .u8 0, .int .u8 0, .int .u8 0, .int .u8 0, .int .u8 0, .int .u8 0, .int .u8 0, .int .u8 0, .int .u8 0, .int .u8 0, .int .u8 0, .int .u8 0, .int .u8 0, .int .u8 0, .int .u8 0,
 .int .u8 0, .int .u8 0, .int .u8 0, .int .u8 0], .string (ByteArray.mk #[103]), .string (ByteArray.mk #[116, 101, 120, 116, 32, 111, 102, 32, 120]), .int .i64 10] w' fun (e : Ending) (w'_1 : World) => ∃ (x_3 : Int), e = .returned (.int .i64 x_3) /\ KeptL [n_3, n_2, n_1, n] w' w'_1 /\ CallsS Tryz.prog 18 #[.pointer x, .agg #[.int .u8 3, .int .u8 0, .int .u8 0, .int .u8 0, .int .u8 0, .int .u8 0, .int .u8 0, .int .u8 0, .int .u8 0, .int .u8 0, .int .u8 0, .int .u8 0, .int .u8 0, .int .u8 0, .int .u8 0, .int .u8 0, .int .u8 0, .int .u8 0, .int .u8 0, .int .u8 0, .int .u8 0, .int .u8 0, .int .u8 0, .int .u8 0, .int .u8 0, .int .u8 0, .int .u8 0, .int .u8 0, .int .u8 0, .int .u8 0, .int .u8 0, .int .u8 0], .string (ByteArray.mk #[103]), .string (ByteArray.mk #[116, 101, 120, 116, 32, 111, 102, 32, 121]), .int .i64 5] w'_1 fun (e : Ending) (w' : World) => ∃ (x_4 : Int),
 e = .returned (.int .i64 x_4) /\ KeptL [n_3, n_2, n_1, n] w'_1 w' /\ CallsS Tryz.prog 39 #[.pointer x, .string (ByteArray.mk #[103]), .agg #[.int .u8 1, .int .u8 0, .int .u8 0, .int .u8 0, .int .u8 0, .int .u8 0, .int .u8 0, .int .u8 0, .int .u8 0, .int .u8 0, .int .u8 0, .int .u8 0, .int .u8 0, .int .u8 0, .int .u8 0, .int .u8 0], .int .i64 20] w' fun (e : Ending) (w'_2 : World) => ∃ (f : Nat -> Int) (x_5 : ByteArray), ∃ (x_6 : ByteArray) (x_7 : Int), ∃ (x_8 : Int) (f_1 : Nat -> Int), ∃ (x_9 : Int) (x_10 : ByteArray) (x_11 : Int), e = .returned (.tuple #[.agg (arrI .u8 f 32 0 ++ ([Value.string x_5, .string x_6, .int .i64 x_7, .int .i64 x_8] ++ arrI .u8 f_1 16 0 ++ [Value.int .i64 x_9, .string x_10])).toArray, .int .i64 x_11]) /\ KeptL [n_3, n_2, n_1, n] w' w'_2 /\ ∀ (n_5 : Nat) (W : World), Loc w.heap.size [Blk.mk n_5 48 (arrI .u8 f 32 0 ++ ([Value.string x_5,
 .string x_6, .int .i64 x_7, .int .i64 x_8] ++ arrI .u8 f_1 16 0 ++ [Value.int .i64 x_9, .string x_10])) (wrM 2), Blk.mk n_3 32 [Value.int .u8 3, .int .u8 0, .int .u8 0, .int .u8 0, .int .u8 0, .int .u8 0, .int .u8 0, .int .u8 0, .int .u8 0, .int .u8 0, .int .u8 0, .int .u8 0, .int .u8 0, .int .u8 0, .int .u8 0, .int .u8 0, .int .u8 0, .int .u8 0, .int .u8 0, .int .u8 0, .int .u8 0, .int .u8 0, .int .u8 0, .int .u8 0, .int .u8 0, .int .u8 0, .int .u8 0, .int .u8 0, .int .u8 0, .int .u8 0, .int .u8 0, .int .u8 0] 0, Blk.mk n_2 32 [Value.int .u8 7, .int .u8 0, .int .u8 0, .int .u8 0, .int .u8 0, .int .u8 0, .int .u8 0, .int .u8 0, .int .u8 0, .int .u8 0, .int .u8 0, .int .u8 0, .int .u8 0, .int .u8 0, .int .u8 0, .int .u8 0, .int .u8 0, .int .u8 0, .int .u8 0, .int .u8 0, .int .u8 0, .int .u8 0, .int .u8 0, .int .u8 0, .int .u8 0, .int .u8 0, .int .u8 0,
 .int .u8 0, .int .u8 0, .int .u8 0, .int .u8 0, .int .u8 0] 0, Blk.mk n_1 45 [Value.int .u8 2, .int .u8 0, .int .u8 0, .int .u8 0, .int .u8 0, .int .u8 0, .int .u8 0, .int .u8 0, .int .u8 0, .int .u8 0, .int .u8 0, .int .u8 0, .int .u8 0, .int .u8 0, .int .u8 0, .int .u8 0] 0, Blk.mk n 45 [Value.int .u8 1, .int .u8 0, .int .u8 0, .int .u8 0, .int .u8 0, .int .u8 0, .int .u8 0, .int .u8 0, .int .u8 0, .int .u8 0, .int .u8 0, .int .u8 0, .int .u8 0, .int .u8 0, .int .u8 0, .int .u8 0] 0] w'_2 W -> CallsS Tryz.prog 39 #[.pointer x, .string (ByteArray.mk #[103]), .agg #[.int .u8 1, .int .u8 0, .int .u8 0, .int .u8 0, .int .u8 0, .int .u8 0, .int .u8 0, .int .u8 0, .int .u8 0, .int .u8 0, .int .u8 0, .int .u8 0, .int .u8 0, .int .u8 0, .int .u8 0, .int .u8 0], .int .i64 20] W fun (e : Ending) (w' : World) => ∃ (f_2 : Nat -> Int) (x_12 : ByteArray), ∃ (x_13 : ByteArray) (x_14 : Int),
 ∃ (x_15 : Int) (f_3 : Nat -> Int), ∃ (x_16 : Int) (x_17 : ByteArray) (x_18 : Int), e = .returned (.tuple #[.agg (arrI .u8 f_2 32 0 ++ ([Value.string x_12, .string x_13, .int .i64 x_14, .int .i64 x_15] ++ arrI .u8 f_3 16 0 ++ [Value.int .i64 x_16, .string x_17])).toArray, .int .i64 x_18]) /\ KeptL [n_5, n_3, n_2, n_1, n] W w' /\ ∀ (n_6 : Nat) (W : World), Loc w.heap.size [Blk.mk n_6 48 (arrI .u8 f_2 32 0 ++ ([Value.string x_12, .string x_13, .int .i64 x_14, .int .i64 x_15] ++ arrI .u8 f_3 16 0 ++ [Value.int .i64 x_16, .string x_17])) (wrM 2), Blk.mk n_5 48 (arrI .u8 f 32 0 ++ ([Value.string x_5, .string x_6, .int .i64 x_7, .int .i64 x_8] ++ arrI .u8 f_1 16 0 ++ [Value.int .i64 x_9, .string x_10])) 0, Blk.mk n_3 32 [Value.int .u8 3, .int .u8 0, .int .u8 0, .int .u8 0, .int .u8 0, .int .u8 0, .int .u8 0, .int .u8 0, .int .u8 0, .int .u8 0, .int .u8 0, .int .u8 0,
 .int .u8 0, .int .u8 0, .int .u8 0, .int .u8 0, .int .u8 0, .int .u8 0, .int .u8 0, .int .u8 0, .int .u8 0, .int .u8 0, .int .u8 0, .int .u8 0, .int .u8 0, .int .u8 0, .int .u8 0, .int .u8 0, .int .u8 0, .int .u8 0, .int .u8 0, .int .u8 0] 0, Blk.mk n_2 32 [Value.int .u8 7, .int .u8 0, .int .u8 0, .int .u8 0, .int .u8 0, .int .u8 0, .int .u8 0, .int .u8 0, .int .u8 0, .int .u8 0, .int .u8 0, .int .u8 0, .int .u8 0, .int .u8 0, .int .u8 0, .int .u8 0, .int .u8 0, .int .u8 0, .int .u8 0, .int .u8 0, .int .u8 0, .int .u8 0, .int .u8 0, .int .u8 0, .int .u8 0, .int .u8 0, .int .u8 0, .int .u8 0, .int .u8 0, .int .u8 0, .int .u8 0, .int .u8 0] 0, Blk.mk n_1 45 [Value.int .u8 2, .int .u8 0, .int .u8 0, .int .u8 0, .int .u8 0, .int .u8 0, .int .u8 0, .int .u8 0, .int .u8 0, .int .u8 0, .int .u8 0, .int .u8 0, .int .u8 0, .int .u8 0, .int .u8 0, .int .u8 0] 0, Blk.mk n 45
 [Value.int .u8 1, .int .u8 0, .int .u8 0, .int .u8 0, .int .u8 0, .int .u8 0, .int .u8 0, .int .u8 0, .int .u8 0, .int .u8 0, .int .u8 0, .int .u8 0, .int .u8 0, .int .u8 0, .int .u8 0, .int .u8 0] 0] w' W -> CallsS Tryz.prog 39 #[.pointer x, .string (ByteArray.mk #[103]), .agg #[.int .u8 2, .int .u8 0, .int .u8 0, .int .u8 0, .int .u8 0, .int .u8 0, .int .u8 0, .int .u8 0, .int .u8 0, .int .u8 0, .int .u8 0, .int .u8 0, .int .u8 0, .int .u8 0, .int .u8 0, .int .u8 0], .int .i64 20] W fun (e : Ending) (w' : World) => ∃ (f_4 : Nat -> Int) (x_19 : ByteArray), ∃ (x_20 : ByteArray) (x_21 : Int), ∃ (x_22 : Int) (f_5 : Nat -> Int), ∃ (x_23 : Int) (x_24 : ByteArray) (x_25 : Int), e = .returned (.tuple #[.agg (arrI .u8 f_4 32 0 ++ ([Value.string x_19, .string x_20, .int .i64 x_21, .int .i64 x_22] ++ arrI .u8 f_5 16 0 ++ [Value.int .i64 x_23, .string x_24])).toArray,
 .int .i64 x_25]) /\ KeptL [n_6, n_5, n_3, n_2, n_1, n] W w' /\ ∀ (n_7 : Nat) (W : World), Loc w.heap.size [Blk.mk n_7 48 (arrI .u8 f_4 32 0 ++ ([Value.string x_19, .string x_20, .int .i64 x_21, .int .i64 x_22] ++ arrI .u8 f_5 16 0 ++ [Value.int .i64 x_23, .string x_24])) (wrM 2), Blk.mk n_6 48 (arrI .u8 f_2 32 0 ++ ([Value.string x_12, .string x_13, .int .i64 x_14, .int .i64 x_15] ++ arrI .u8 f_3 16 0 ++ [Value.int .i64 x_16, .string x_17])) 0, Blk.mk n_5 48 (arrI .u8 f 32 0 ++ ([Value.string x_5, .string x_6, .int .i64 x_7, .int .i64 x_8] ++ arrI .u8 f_1 16 0 ++ [Value.int .i64 x_9, .string x_10])) 0, Blk.mk n_3 32 [Value.int .u8 3, .int .u8 0, .int .u8 0, .int .u8 0, .int .u8 0, .int .u8 0, .int .u8 0, .int .u8 0, .int .u8 0, .int .u8 0, .int .u8 0, .int .u8 0, .int .u8 0, .int .u8 0, .int .u8 0, .int .u8 0, .int .u8 0, .int .u8 0, .int .u8 0, .int .u8 0, .int .u8 0, .int .u8 0,
 .int .u8 0, .int .u8 0, .int .u8 0, .int .u8 0, .int .u8 0, .int .u8 0, .int .u8 0, .int .u8 0, .int .u8 0, .int .u8 0] 0, Blk.mk n_2 32 [Value.int .u8 7, .int .u8 0, .int .u8 0, .int .u8 0, .int .u8 0, .int .u8 0, .int .u8 0, .int .u8 0, .int .u8 0, .int .u8 0, .int .u8 0, .int .u8 0, .int .u8 0, .int .u8 0, .int .u8 0, .int .u8 0, .int .u8 0, .int .u8 0, .int .u8 0, .int .u8 0, .int .u8 0, .int .u8 0, .int .u8 0, .int .u8 0, .int .u8 0, .int .u8 0, .int .u8 0, .int .u8 0, .int .u8 0, .int .u8 0, .int .u8 0, .int .u8 0] 0, Blk.mk n_1 45 [Value.int .u8 2, .int .u8 0, .int .u8 0, .int .u8 0, .int .u8 0, .int .u8 0, .int .u8 0, .int .u8 0, .int .u8 0, .int .u8 0, .int .u8 0, .int .u8 0, .int .u8 0, .int .u8 0, .int .u8 0, .int .u8 0] 0, Blk.mk n 45 [Value.int .u8 1, .int .u8 0, .int .u8 0, .int .u8 0, .int .u8 0, .int .u8 0, .int .u8 0, .int .u8 0, .int .u8 0, .int .u8 0,
 .int .u8 0, .int .u8 0, .int .u8 0, .int .u8 0, .int .u8 0, .int .u8 0] 0] w' W -> CallsS Tryz.prog 19 #[.pointer x, .agg #[.int .u8 3, .int .u8 0, .int .u8 0, .int .u8 0, .int .u8 0, .int .u8 0, .int .u8 0, .int .u8 0, .int .u8 0, .int .u8 0, .int .u8 0, .int .u8 0, .int .u8 0, .int .u8 0, .int .u8 0, .int .u8 0, .int .u8 0, .int .u8 0, .int .u8 0, .int .u8 0, .int .u8 0, .int .u8 0, .int .u8 0, .int .u8 0, .int .u8 0, .int .u8 0, .int .u8 0, .int .u8 0, .int .u8 0, .int .u8 0, .int .u8 0, .int .u8 0], .string (ByteArray.mk #[103]), .agg #[.int .u8 2, .int .u8 0, .int .u8 0, .int .u8 0, .int .u8 0, .int .u8 0, .int .u8 0, .int .u8 0, .int .u8 0, .int .u8 0, .int .u8 0, .int .u8 0, .int .u8 0, .int .u8 0, .int .u8 0, .int .u8 0], .int .i64 79] W fun (e : Ending) (w' : World) => ∃ (x_26 : Int) (f_6 : Nat -> Int), ∃ (x_27 : ByteArray) (x_28 : Int) (x_29 : Bool),
 ∃ (p : Option Addr) (n_8 : Nat), ∃ (c : Nat) (x_30 : ByteArray), ∃ (x_31 : Int) (x_32 : Int), ∃ (f_7 : Nat -> Int) (x_33 : Int), e = .returned (.tuple #[.agg ([Value.int .i64 x_26] ++ arrI .u8 f_6 32 0 ++ ([Value.string x_27, .int .i64 x_28, .bool x_29, .slice p n_8 c, .string x_30, .int .i64 x_31, .int .i64 x_32] ++ arrI .u8 f_7 16 0)).toArray, .int .i64 x_33]) /\ KeptL [n_7, n_6, n_5, n_3, n_2, n_1, n] W w' /\ ∀ (n_9 : Nat) (W : World), Loc w.heap.size [Blk.mk n_9 42 ([Value.int .i64 x_26] ++ arrI .u8 f_6 32 0 ++ ([Value.string x_27, .int .i64 x_28, .bool x_29, .slice p n_8 c, .string x_30, .int .i64 x_31, .int .i64 x_32] ++ arrI .u8 f_7 16 0)) (wrM 2), Blk.mk n_7 48 (arrI .u8 f_4 32 0 ++ ([Value.string x_19, .string x_20, .int .i64 x_21, .int .i64 x_22] ++ arrI .u8 f_5 16 0 ++ [Value.int .i64 x_23, .string x_24])) 0, Blk.mk n_6 48
 (arrI .u8 f_2 32 0 ++ ([Value.string x_12, .string x_13, .int .i64 x_14, .int .i64 x_15] ++ arrI .u8 f_3 16 0 ++ [Value.int .i64 x_16, .string x_17])) 0, Blk.mk n_5 48 (arrI .u8 f 32 0 ++ ([Value.string x_5, .string x_6, .int .i64 x_7, .int .i64 x_8] ++ arrI .u8 f_1 16 0 ++ [Value.int .i64 x_9, .string x_10])) 0, Blk.mk n_3 32 [Value.int .u8 3, .int .u8 0, .int .u8 0, .int .u8 0, .int .u8 0, .int .u8 0, .int .u8 0, .int .u8 0, .int .u8 0, .int .u8 0, .int .u8 0, .int .u8 0, .int .u8 0, .int .u8 0, .int .u8 0, .int .u8 0, .int .u8 0, .int .u8 0, .int .u8 0, .int .u8 0, .int .u8 0, .int .u8 0, .int .u8 0, .int .u8 0, .int .u8 0, .int .u8 0, .int .u8 0, .int .u8 0, .int .u8 0, .int .u8 0, .int .u8 0, .int .u8 0] 0, Blk.mk n_2 32 [Value.int .u8 7, .int .u8 0, .int .u8 0, .int .u8 0, .int .u8 0, .int .u8 0, .int .u8 0, .int .u8 0, .int .u8 0, .int .u8 0, .int .u8 0, .int .u8 0, .int .u8 0,
 .int .u8 0, .int .u8 0, .int .u8 0, .int .u8 0, .int .u8 0, .int .u8 0, .int .u8 0, .int .u8 0, .int .u8 0, .int .u8 0, .int .u8 0, .int .u8 0, .int .u8 0, .int .u8 0, .int .u8 0, .int .u8 0, .int .u8 0, .int .u8 0, .int .u8 0] 0, Blk.mk n_1 45 [Value.int .u8 2, .int .u8 0, .int .u8 0, .int .u8 0, .int .u8 0, .int .u8 0, .int .u8 0, .int .u8 0, .int .u8 0, .int .u8 0, .int .u8 0, .int .u8 0, .int .u8 0, .int .u8 0, .int .u8 0, .int .u8 0] 0, Blk.mk n 45 [Value.int .u8 1, .int .u8 0, .int .u8 0, .int .u8 0, .int .u8 0, .int .u8 0, .int .u8 0, .int .u8 0, .int .u8 0, .int .u8 0, .int .u8 0, .int .u8 0, .int .u8 0, .int .u8 0, .int .u8 0, .int .u8 0] 0] w' W -> CallsS Tryz.prog 19 #[.pointer x, .agg #[.int .u8 3, .int .u8 0, .int .u8 0, .int .u8 0, .int .u8 0, .int .u8 0, .int .u8 0, .int .u8 0, .int .u8 0, .int .u8 0, .int .u8 0, .int .u8 0, .int .u8 0, .int .u8 0, .int .u8 0,
 .int .u8 0, .int .u8 0, .int .u8 0, .int .u8 0, .int .u8 0, .int .u8 0, .int .u8 0, .int .u8 0, .int .u8 0, .int .u8 0, .int .u8 0, .int .u8 0, .int .u8 0, .int .u8 0, .int .u8 0, .int .u8 0, .int .u8 0], .string (ByteArray.mk #[103]), .agg #[.int .u8 2, .int .u8 0, .int .u8 0, .int .u8 0, .int .u8 0, .int .u8 0, .int .u8 0, .int .u8 0, .int .u8 0, .int .u8 0, .int .u8 0, .int .u8 0, .int .u8 0, .int .u8 0, .int .u8 0, .int .u8 0], .int .i64 80] W fun (e : Ending) (w' : World) => ∃ (x_34 : Int) (f_8 : Nat -> Int), ∃ (x_35 : ByteArray) (x_36 : Int), ∃ (x_37 : Bool) (p_1 : Option Addr), ∃ (n_10 : Nat) (c_1 : Nat), ∃ (x_38 : ByteArray) (x_39 : Int), ∃ (x_40 : Int) (f_9 : Nat -> Int) (x_41 : Int), e = .returned (.tuple #[.agg ([Value.int .i64 x_34] ++ arrI .u8 f_8 32 0 ++ ([Value.string x_35, .int .i64 x_36, .bool x_37, .slice p_1 n_10 c_1, .string x_38, .int
 .i64 x_39, .int .i64 x_40] ++ arrI .u8 f_9 16 0)).toArray, .int .i64 x_41]) /\ KeptL [n_9, n_7, n_6, n_5, n_3, n_2, n_1, n] W w' /\ ∀ (n_11 : Nat), ∃ (f_10 : Nat -> Int), gimp (x_2 == 0 && x_3 == 0 && x_4 == 0 && x_11 == 0) (∀ (W : World), Loc w.heap.size [Blk.mk n_11 42 ([Value.int .i64 x_34] ++ arrI .u8 f_8 32 0 ++ ([Value.string x_35, .int .i64 x_36, .bool x_37, .slice p_1 n_10 c_1, .string x_38, .int .i64 x_39, .int .i64 x_40] ++ arrI .u8 f_9 16 0)) (wrM 2), Blk.mk n_9 42 ([Value.int .i64 x_26] ++ arrI .u8 f_6 32 0 ++ ([Value.string x_27, .int .i64 x_28, .bool x_29, .slice p n_8 c, .string x_30, .int .i64 x_31, .int .i64 x_32] ++ arrI .u8 f_7 16 0)) 0, Blk.mk n_7 48 (arrI .u8 f_4 32 0 ++ ([Value.string x_19, .string x_20, .int .i64 x_21, .int .i64 x_22] ++ arrI .u8 f_5 16 0 ++ [Value.int .i64 x_23, .string x_24])) 0, Blk.mk n_6 48 (arrI .u8 f_2 32 0 ++ ([Value.string x_12, .string
 x_13, .int .i64 x_14, .int .i64 x_15] ++ arrI .u8 f_3 16 0 ++ [Value.int .i64 x_16, .string x_17])) 0, Blk.mk n_5 48 (arrI .u8 f 32 0 ++ ([Value.string x_5, .string x_6, .int .i64 x_7, .int .i64 x_8] ++ arrI .u8 f_1 16 0 ++ [Value.int .i64 x_9, .string x_10])) 0, Blk.mk n_3 32 [Value.int .u8 3, .int .u8 0, .int .u8 0, .int .u8 0, .int .u8 0, .int .u8 0, .int .u8 0, .int .u8 0, .int .u8 0, .int .u8 0, .int .u8 0, .int .u8 0, .int .u8 0, .int .u8 0, .int .u8 0, .int .u8 0, .int .u8 0, .int .u8 0, .int .u8 0, .int .u8 0, .int .u8 0, .int .u8 0, .int .u8 0, .int .u8 0, .int .u8 0, .int .u8 0, .int .u8 0, .int .u8 0, .int .u8 0, .int .u8 0, .int .u8 0, .int .u8 0] 0, Blk.mk n_2 32 [Value.int .u8 7, .int .u8 0, .int .u8 0, .int .u8 0, .int .u8 0, .int .u8 0, .int .u8 0, .int .u8 0, .int .u8 0, .int .u8 0, .int .u8 0, .int .u8 0, .int .u8 0, .int .u8 0, .int .u8 0, .int .u8 0, .int .u8 0,
 .int .u8 0, .int .u8 0, .int .u8 0, .int .u8 0, .int .u8 0, .int .u8 0, .int .u8 0, .int .u8 0, .int .u8 0, .int .u8 0, .int .u8 0, .int .u8 0, .int .u8 0, .int .u8 0, .int .u8 0] 0, Blk.mk n_1 45 [Value.int .u8 2, .int .u8 0, .int .u8 0, .int .u8 0, .int .u8 0, .int .u8 0, .int .u8 0, .int .u8 0, .int .u8 0, .int .u8 0, .int .u8 0, .int .u8 0, .int .u8 0, .int .u8 0, .int .u8 0, .int .u8 0] 0, Blk.mk n 45 [Value.int .u8 1, .int .u8 0, .int .u8 0, .int .u8 0, .int .u8 0, .int .u8 0, .int .u8 0, .int .u8 0, .int .u8 0, .int .u8 0, .int .u8 0, .int .u8 0, .int .u8 0, .int .u8 0, .int .u8 0, .int .u8 0] 0] w' W -> AtL W n_5 0 (arrI .u8 f_10 32 0)) /\ ∃ (r : Bool), gimp (x_2 == 0 && x_3 == 0 && x_4 == 0 && x_11 == 0) (EqP Tryz.prog 32 (.agg (arrI .u8 f_10 32 0).toArray) (.agg #[.int .u8 3, .int .u8 0, .int .u8 0, .int .u8 0, .int .u8 0, .int .u8 0, .int .u8 0, .int .u8 0, .int .u8 0, .int
 .u8 0, .int .u8 0, .int .u8 0, .int .u8 0, .int .u8 0, .int .u8 0, .int .u8 0, .int .u8 0, .int .u8 0, .int .u8 0, .int .u8 0, .int .u8 0, .int .u8 0, .int .u8 0, .int .u8 0, .int .u8 0, .int .u8 0, .int .u8 0, .int .u8 0, .int .u8 0, .int .u8 0, .int .u8 0, .int .u8 0]) r) /\ ∃ (x_42 : ByteArray), gimp (x_2 == 0 && x_3 == 0 && x_4 == 0 && x_11 == 0 && r) (∀ (W : World), Loc w.heap.size [Blk.mk n_11 42 ([Value.int .i64 x_34] ++ arrI .u8 f_8 32 0 ++ ([Value.string x_35, .int .i64 x_36, .bool x_37, .slice p_1 n_10 c_1, .string x_38, .int .i64 x_39, .int .i64 x_40] ++ arrI .u8 f_9 16 0)) (wrM 2), Blk.mk n_9 42 ([Value.int .i64 x_26] ++ arrI .u8 f_6 32 0 ++ ([Value.string x_27, .int .i64 x_28, .bool x_29, .slice p n_8 c, .string x_30, .int .i64 x_31, .int .i64 x_32] ++ arrI .u8 f_7 16 0)) 0, Blk.mk n_7 48 (arrI .u8 f_4 32 0 ++ ([Value.string x_19, .string x_20, .int .i64 x_21, .int .i64
 x_22] ++ arrI .u8 f_5 16 0 ++ [Value.int .i64 x_23, .string x_24])) 0, Blk.mk n_6 48 (arrI .u8 f_2 32 0 ++ ([Value.string x_12, .string x_13, .int .i64 x_14, .int .i64 x_15] ++ arrI .u8 f_3 16 0 ++ [Value.int .i64 x_16, .string x_17])) 0, Blk.mk n_5 48 (arrI .u8 f 32 0 ++ ([Value.string x_5, .string x_6, .int .i64 x_7, .int .i64 x_8] ++ arrI .u8 f_1 16 0 ++ [Value.int .i64 x_9, .string x_10])) 0, Blk.mk n_3 32 [Value.int .u8 3, .int .u8 0, .int .u8 0, .int .u8 0, .int .u8 0, .int .u8 0, .int .u8 0, .int .u8 0, .int .u8 0, .int .u8 0, .int .u8 0, .int .u8 0, .int .u8 0, .int .u8 0, .int .u8 0, .int .u8 0, .int .u8 0, .int .u8 0, .int .u8 0, .int .u8 0, .int .u8 0, .int .u8 0, .int .u8 0, .int .u8 0, .int .u8 0, .int .u8 0, .int .u8 0, .int .u8 0, .int .u8 0, .int .u8 0, .int .u8 0, .int .u8 0] 0, Blk.mk n_2 32 [Value.int .u8 7, .int .u8 0, .int .u8 0, .int .u8 0, .int .u8 0, .int .u8 0,
 .int .u8 0, .int .u8 0, .int .u8 0, .int .u8 0, .int .u8 0, .int .u8 0, .int .u8 0, .int .u8 0, .int .u8 0, .int .u8 0, .int .u8 0, .int .u8 0, .int .u8 0, .int .u8 0, .int .u8 0, .int .u8 0, .int .u8 0, .int .u8 0, .int .u8 0, .int .u8 0, .int .u8 0, .int .u8 0, .int .u8 0, .int .u8 0, .int .u8 0, .int .u8 0] 0, Blk.mk n_1 45 [Value.int .u8 2, .int .u8 0, .int .u8 0, .int .u8 0, .int .u8 0, .int .u8 0, .int .u8 0, .int .u8 0, .int .u8 0, .int .u8 0, .int .u8 0, .int .u8 0, .int .u8 0, .int .u8 0, .int .u8 0, .int .u8 0] 0, Blk.mk n 45 [Value.int .u8 1, .int .u8 0, .int .u8 0, .int .u8 0, .int .u8 0, .int .u8 0, .int .u8 0, .int .u8 0, .int .u8 0, .int .u8 0, .int .u8 0, .int .u8 0, .int .u8 0, .int .u8 0, .int .u8 0, .int .u8 0] 0] w' W -> W.cell? (Addr.mk n_5 (0 + 33) none) = some (.string x_42)) /\ ∃ (f_11 : Nat -> Int), gimp (x_2 == 0 && x_3 == 0 && x_4 == 0 && x_11 == 0 && r &&
 x_42.toList == [(ByteArray.mk #[116, 101, 120, 116, 32, 111, 102, 32, 121]).get! 0, (ByteArray.mk #[116, 101, 120, 116, 32, 111, 102, 32, 121]).get! 1, (ByteArray.mk #[116, 101, 120, 116, 32, 111, 102, 32, 121]).get! 2, (ByteArray.mk #[116, 101, 120, 116, 32, 111, 102, 32, 121]).get! 3, (ByteArray.mk #[116, 101, 120, 116, 32, 111, 102, 32, 121]).get! 4, (ByteArray.mk #[116, 101, 120, 116, 32, 111, 102, 32, 121]).get! 5, (ByteArray.mk #[116, 101, 120, 116, 32, 111, 102, 32, 121]).get! 6, (ByteArray.mk #[116, 101, 120, 116, 32, 111, 102, 32, 121]).get! 7, (ByteArray.mk #[116, 101, 120, 116, 32, 111, 102, 32, 121]).get! 8]) (∀ (W : World), Loc w.heap.size [Blk.mk n_11 42 ([Value.int .i64 x_34] ++ arrI .u8 f_8 32 0 ++ ([Value.string x_35, .int .i64 x_36, .bool x_37, .slice p_1 n_10 c_1, .string x_38, .int .i64 x_39, .int .i64 x_40] ++ arrI .u8 f_9 16 0)) (wrM 2), Blk.mk n_9 42 ([Value.int
 .i64 x_26] ++ arrI .u8 f_6 32 0 ++ ([Value.string x_27, .int .i64 x_28, .bool x_29, .slice p n_8 c, .string x_30, .int .i64 x_31, .int .i64 x_32] ++ arrI .u8 f_7 16 0)) 0, Blk.mk n_7 48 (arrI .u8 f_4 32 0 ++ ([Value.string x_19, .string x_20, .int .i64 x_21, .int .i64 x_22] ++ arrI .u8 f_5 16 0 ++ [Value.int .i64 x_23, .string x_24])) 0, Blk.mk n_6 48 (arrI .u8 f_2 32 0 ++ ([Value.string x_12, .string x_13, .int .i64 x_14, .int .i64 x_15] ++ arrI .u8 f_3 16 0 ++ [Value.int .i64 x_16, .string x_17])) 0, Blk.mk n_5 48 (arrI .u8 f 32 0 ++ ([Value.string x_5, .string x_6, .int .i64 x_7, .int .i64 x_8] ++ arrI .u8 f_1 16 0 ++ [Value.int .i64 x_9, .string x_10])) 0, Blk.mk n_3 32 [Value.int .u8 3, .int .u8 0, .int .u8 0, .int .u8 0, .int .u8 0, .int .u8 0, .int .u8 0, .int .u8 0, .int .u8 0, .int .u8 0, .int .u8 0, .int .u8 0, .int .u8 0, .int .u8 0, .int .u8 0, .int .u8 0, .int .u8 0, .int
 .u8 0, .int .u8 0, .int .u8 0, .int .u8 0, .int .u8 0, .int .u8 0, .int .u8 0, .int .u8 0, .int .u8 0, .int .u8 0, .int .u8 0, .int .u8 0, .int .u8 0, .int .u8 0, .int .u8 0] 0, Blk.mk n_2 32 [Value.int .u8 7, .int .u8 0, .int .u8 0, .int .u8 0, .int .u8 0, .int .u8 0, .int .u8 0, .int .u8 0, .int .u8 0, .int .u8 0, .int .u8 0, .int .u8 0, .int .u8 0, .int .u8 0, .int .u8 0, .int .u8 0, .int .u8 0, .int .u8 0, .int .u8 0, .int .u8 0, .int .u8 0, .int .u8 0, .int .u8 0, .int .u8 0, .int .u8 0, .int .u8 0, .int .u8 0, .int .u8 0, .int .u8 0, .int .u8 0, .int .u8 0, .int .u8 0] 0, Blk.mk n_1 45 [Value.int .u8 2, .int .u8 0, .int .u8 0, .int .u8 0, .int .u8 0, .int .u8 0, .int .u8 0, .int .u8 0, .int .u8 0, .int .u8 0, .int .u8 0, .int .u8 0, .int .u8 0, .int .u8 0, .int .u8 0, .int .u8 0] 0, Blk.mk n 45 [Value.int .u8 1, .int .u8 0, .int .u8 0, .int .u8 0, .int .u8 0, .int .u8 0, .int .u8
 0, .int .u8 0, .int .u8 0, .int .u8 0, .int .u8 0, .int .u8 0, .int .u8 0, .int .u8 0, .int .u8 0, .int .u8 0] 0] w' W -> AtL W n_6 0 (arrI .u8 f_11 32 0)) /\ ∃ (r_1 : Bool), gimp (x_2 == 0 && x_3 == 0 && x_4 == 0 && x_11 == 0 && r && x_42.toList == [(ByteArray.mk #[116, 101, 120, 116, 32, 111, 102, 32, 121]).get! 0, (ByteArray.mk #[116, 101, 120, 116, 32, 111, 102, 32, 121]).get! 1, (ByteArray.mk #[116, 101, 120, 116, 32, 111, 102, 32, 121]).get! 2, (ByteArray.mk #[116, 101, 120, 116, 32, 111, 102, 32, 121]).get! 3, (ByteArray.mk #[116, 101, 120, 116, 32, 111, 102, 32, 121]).get! 4, (ByteArray.mk #[116, 101, 120, 116, 32, 111, 102, 32, 121]).get! 5, (ByteArray.mk #[116, 101, 120, 116, 32, 111, 102, 32, 121]).get! 6, (ByteArray.mk #[116, 101, 120, 116, 32, 111, 102, 32, 121]).get! 7, (ByteArray.mk #[116, 101, 120, 116, 32, 111, 102, 32, 121]).get! 8]) (EqP Tryz.prog 32 (.agg
 (arrI .u8 f_11 32 0).toArray) (.agg #[.int .u8 3, .int .u8 0, .int .u8 0, .int .u8 0, .int .u8 0, .int .u8 0, .int .u8 0, .int .u8 0, .int .u8 0, .int .u8 0, .int .u8 0, .int .u8 0, .int .u8 0, .int .u8 0, .int .u8 0, .int .u8 0, .int .u8 0, .int .u8 0, .int .u8 0, .int .u8 0, .int .u8 0, .int .u8 0, .int .u8 0, .int .u8 0, .int .u8 0, .int .u8 0, .int .u8 0, .int .u8 0, .int .u8 0, .int .u8 0, .int .u8 0, .int .u8 0]) r_1) /\ ∃ (f_12 : Nat -> Int), gimp (x_2 == 0 && x_3 == 0 && x_4 == 0 && x_11 == 0 && r && x_42.toList == [(ByteArray.mk #[116, 101, 120, 116, 32, 111, 102, 32, 121]).get! 0, (ByteArray.mk #[116, 101, 120, 116, 32, 111, 102, 32, 121]).get! 1, (ByteArray.mk #[116, 101, 120, 116, 32, 111, 102, 32, 121]).get! 2, (ByteArray.mk #[116, 101, 120, 116, 32, 111, 102, 32, 121]).get! 3, (ByteArray.mk #[116, 101, 120, 116, 32, 111, 102, 32, 121]).get! 4, (ByteArray.mk #[116, 101,
 120, 116, 32, 111, 102, 32, 121]).get! 5, (ByteArray.mk #[116, 101, 120, 116, 32, 111, 102, 32, 121]).get! 6, (ByteArray.mk #[116, 101, 120, 116, 32, 111, 102, 32, 121]).get! 7, (ByteArray.mk #[116, 101, 120, 116, 32, 111, 102, 32, 121]).get! 8] && r_1) (∀ (W : World), Loc w.heap.size [Blk.mk n_11 42 ([Value.int .i64 x_34] ++ arrI .u8 f_8 32 0 ++ ([Value.string x_35, .int .i64 x_36, .bool x_37, .slice p_1 n_10 c_1, .string x_38, .int .i64 x_39, .int .i64 x_40] ++ arrI .u8 f_9 16 0)) (wrM 2), Blk.mk n_9 42 ([Value.int .i64 x_26] ++ arrI .u8 f_6 32 0 ++ ([Value.string x_27, .int .i64 x_28, .bool x_29, .slice p n_8 c, .string x_30, .int .i64 x_31, .int .i64 x_32] ++ arrI .u8 f_7 16 0)) 0, Blk.mk n_7 48 (arrI .u8 f_4 32 0 ++ ([Value.string x_19, .string x_20, .int .i64 x_21, .int .i64 x_22] ++ arrI .u8 f_5 16 0 ++ [Value.int .i64 x_23, .string x_24])) 0, Blk.mk n_6 48
 (arrI .u8 f_2 32 0 ++ ([Value.string x_12, .string x_13, .int .i64 x_14, .int .i64 x_15] ++ arrI .u8 f_3 16 0 ++ [Value.int .i64 x_16, .string x_17])) 0, Blk.mk n_5 48 (arrI .u8 f 32 0 ++ ([Value.string x_5, .string x_6, .int .i64 x_7, .int .i64 x_8] ++ arrI .u8 f_1 16 0 ++ [Value.int .i64 x_9, .string x_10])) 0, Blk.mk n_3 32 [Value.int .u8 3, .int .u8 0, .int .u8 0, .int .u8 0, .int .u8 0, .int .u8 0, .int .u8 0, .int .u8 0, .int .u8 0, .int .u8 0, .int .u8 0, .int .u8 0, .int .u8 0, .int .u8 0, .int .u8 0, .int .u8 0, .int .u8 0, .int .u8 0, .int .u8 0, .int .u8 0, .int .u8 0, .int .u8 0, .int .u8 0, .int .u8 0, .int .u8 0, .int .u8 0, .int .u8 0, .int .u8 0, .int .u8 0, .int .u8 0, .int .u8 0, .int .u8 0] 0, Blk.mk n_2 32 [Value.int .u8 7, .int .u8 0, .int .u8 0, .int .u8 0, .int .u8 0, .int .u8 0, .int .u8 0, .int .u8 0, .int .u8 0, .int .u8 0, .int .u8 0, .int .u8 0, .int .u8 0,
 .int .u8 0, .int .u8 0, .int .u8 0, .int .u8 0, .int .u8 0, .int .u8 0, .int .u8 0, .int .u8 0, .int .u8 0, .int .u8 0, .int .u8 0, .int .u8 0, .int .u8 0, .int .u8 0, .int .u8 0, .int .u8 0, .int .u8 0, .int .u8 0, .int .u8 0] 0, Blk.mk n_1 45 [Value.int .u8 2, .int .u8 0, .int .u8 0, .int .u8 0, .int .u8 0, .int .u8 0, .int .u8 0, .int .u8 0, .int .u8 0, .int .u8 0, .int .u8 0, .int .u8 0, .int .u8 0, .int .u8 0, .int .u8 0, .int .u8 0] 0, Blk.mk n 45 [Value.int .u8 1, .int .u8 0, .int .u8 0, .int .u8 0, .int .u8 0, .int .u8 0, .int .u8 0, .int .u8 0, .int .u8 0, .int .u8 0, .int .u8 0, .int .u8 0, .int .u8 0, .int .u8 0, .int .u8 0, .int .u8 0] 0] w' W -> AtL W n_7 0 (arrI .u8 f_12 32 0)) /\ ∃ (r_2 : Bool), gimp (x_2 == 0 && x_3 == 0 && x_4 == 0 && x_11 == 0 && r && x_42.toList == [(ByteArray.mk #[116, 101, 120, 116, 32, 111, 102, 32, 121]).get! 0, (ByteArray.mk #[116, 101, 120,
 116, 32, 111, 102, 32, 121]).get! 1, (ByteArray.mk #[116, 101, 120, 116, 32, 111, 102, 32, 121]).get! 2, (ByteArray.mk #[116, 101, 120, 116, 32, 111, 102, 32, 121]).get! 3, (ByteArray.mk #[116, 101, 120, 116, 32, 111, 102, 32, 121]).get! 4, (ByteArray.mk #[116, 101, 120, 116, 32, 111, 102, 32, 121]).get! 5, (ByteArray.mk #[116, 101, 120, 116, 32, 111, 102, 32, 121]).get! 6, (ByteArray.mk #[116, 101, 120, 116, 32, 111, 102, 32, 121]).get! 7, (ByteArray.mk #[116, 101, 120, 116, 32, 111, 102, 32, 121]).get! 8] && r_1) (EqP Tryz.prog 32 (.agg (arrI .u8 f_12 32 0).toArray) (.agg #[.int .u8 7, .int .u8 0, .int .u8 0, .int .u8 0, .int .u8 0, .int .u8 0, .int .u8 0, .int .u8 0, .int .u8 0, .int .u8 0, .int .u8 0, .int .u8 0, .int .u8 0, .int .u8 0, .int .u8 0, .int .u8 0, .int .u8 0, .int .u8 0, .int .u8 0, .int .u8 0, .int .u8 0, .int .u8 0, .int .u8 0, .int .u8 0, .int .u8 0, .int .u8 0,
 .int .u8 0, .int .u8 0, .int .u8 0, .int .u8 0, .int .u8 0, .int .u8 0]) r_2) /\ ∃ (x_43 : Int), gimp (x_2 == 0 && x_3 == 0 && x_4 == 0 && x_11 == 0 && r && x_42.toList == [(ByteArray.mk #[116, 101, 120, 116, 32, 111, 102, 32, 121]).get! 0, (ByteArray.mk #[116, 101, 120, 116, 32, 111, 102, 32, 121]).get! 1, (ByteArray.mk #[116, 101, 120, 116, 32, 111, 102, 32, 121]).get! 2, (ByteArray.mk #[116, 101, 120, 116, 32, 111, 102, 32, 121]).get! 3, (ByteArray.mk #[116, 101, 120, 116, 32, 111, 102, 32, 121]).get! 4, (ByteArray.mk #[116, 101, 120, 116, 32, 111, 102, 32, 121]).get! 5, (ByteArray.mk #[116, 101, 120, 116, 32, 111, 102, 32, 121]).get! 6, (ByteArray.mk #[116, 101, 120, 116, 32, 111, 102, 32, 121]).get! 7, (ByteArray.mk #[116, 101, 120, 116, 32, 111, 102, 32, 121]).get! 8] && r_1 && r_2 && x_33 == 25 && x_41 == 0) (∀ (W : World), Loc w.heap.size [Blk.mk n_11 42 ([Value.int .i64
 x_34] ++ arrI .u8 f_8 32 0 ++ ([Value.string x_35, .int .i64 x_36, .bool x_37, .slice p_1 n_10 c_1, .string x_38, .int .i64 x_39, .int .i64 x_40] ++ arrI .u8 f_9 16 0)) (wrM 2), Blk.mk n_9 42 ([Value.int .i64 x_26] ++ arrI .u8 f_6 32 0 ++ ([Value.string x_27, .int .i64 x_28, .bool x_29, .slice p n_8 c, .string x_30, .int .i64 x_31, .int .i64 x_32] ++ arrI .u8 f_7 16 0)) 0, Blk.mk n_7 48 (arrI .u8 f_4 32 0 ++ ([Value.string x_19, .string x_20, .int .i64 x_21, .int .i64 x_22] ++ arrI .u8 f_5 16 0 ++ [Value.int .i64 x_23, .string x_24])) 0, Blk.mk n_6 48 (arrI .u8 f_2 32 0 ++ ([Value.string x_12, .string x_13, .int .i64 x_14, .int .i64 x_15] ++ arrI .u8 f_3 16 0 ++ [Value.int .i64 x_16, .string x_17])) 0, Blk.mk n_5 48 (arrI .u8 f 32 0 ++ ([Value.string x_5, .string x_6, .int .i64 x_7, .int .i64 x_8] ++ arrI .u8 f_1 16 0 ++ [Value.int .i64 x_9, .string x_10])) 0, Blk.mk n_3 32 [Value.int
 .u8 3, .int .u8 0, .int .u8 0, .int .u8 0, .int .u8 0, .int .u8 0, .int .u8 0, .int .u8 0, .int .u8 0, .int .u8 0, .int .u8 0, .int .u8 0, .int .u8 0, .int .u8 0, .int .u8 0, .int .u8 0, .int .u8 0, .int .u8 0, .int .u8 0, .int .u8 0, .int .u8 0, .int .u8 0, .int .u8 0, .int .u8 0, .int .u8 0, .int .u8 0, .int .u8 0, .int .u8 0, .int .u8 0, .int .u8 0, .int .u8 0, .int .u8 0] 0, Blk.mk n_2 32 [Value.int .u8 7, .int .u8 0, .int .u8 0, .int .u8 0, .int .u8 0, .int .u8 0, .int .u8 0, .int .u8 0, .int .u8 0, .int .u8 0, .int .u8 0, .int .u8 0, .int .u8 0, .int .u8 0, .int .u8 0, .int .u8 0, .int .u8 0, .int .u8 0, .int .u8 0, .int .u8 0, .int .u8 0, .int .u8 0, .int .u8 0, .int .u8 0, .int .u8 0, .int .u8 0, .int .u8 0, .int .u8 0, .int .u8 0, .int .u8 0, .int .u8 0, .int .u8 0] 0, Blk.mk n_1 45 [Value.int .u8 2, .int .u8 0, .int .u8 0, .int .u8 0, .int .u8 0, .int .u8 0, .int .u8 0, .int
 .u8 0, .int .u8 0, .int .u8 0, .int .u8 0, .int .u8 0, .int .u8 0, .int .u8 0, .int .u8 0, .int .u8 0] 0, Blk.mk n 45 [Value.int .u8 1, .int .u8 0, .int .u8 0, .int .u8 0, .int .u8 0, .int .u8 0, .int .u8 0, .int .u8 0, .int .u8 0, .int .u8 0, .int .u8 0, .int .u8 0, .int .u8 0, .int .u8 0, .int .u8 0, .int .u8 0] 0] w' W -> W.cell? (Addr.mk n_11 0 none) = some (.int .i64 x_43)) /\ ∃ (f_13 : Nat -> Int), gimp (x_2 == 0 && x_3 == 0 && x_4 == 0 && x_11 == 0 && r && x_42.toList == [(ByteArray.mk #[116, 101, 120, 116, 32, 111, 102, 32, 121]).get! 0, (ByteArray.mk #[116, 101, 120, 116, 32, 111, 102, 32, 121]).get! (0 + 1), (ByteArray.mk #[116, 101, 120, 116, 32, 111, 102, 32, 121]).get! 2, (ByteArray.mk #[116, 101, 120, 116, 32, 111, 102, 32, 121]).get! 3, (ByteArray.mk #[116, 101, 120, 116, 32, 111, 102, 32, 121]).get! 4, (ByteArray.mk #[116, 101, 120, 116, 32, 111, 102, 32, 121]).get! 5,
 (ByteArray.mk #[116, 101, 120, 116, 32, 111, 102, 32, 121]).get! 6, (ByteArray.mk #[116, 101, 120, 116, 32, 111, 102, 32, 121]).get! 7, (ByteArray.mk #[116, 101, 120, 116, 32, 111, 102, 32, 121]).get! 8] && r_1 && r_2 && x_33 == 25 && x_41 == 0 && x_43 == 2) (∀ (W : World), Loc w.heap.size [Blk.mk n_11 42 ([Value.int .i64 x_34] ++ arrI .u8 f_8 32 0 ++ ([Value.string x_35, .int .i64 x_36, .bool x_37, .slice p_1 n_10 c_1, .string x_38, .int .i64 x_39, .int .i64 x_40] ++ arrI .u8 f_9 16 0)) (wrM 2), Blk.mk n_9 42 ([Value.int .i64 x_26] ++ arrI .u8 f_6 32 0 ++ ([Value.string x_27, .int .i64 x_28, .bool x_29, .slice p n_8 c, .string x_30, .int .i64 x_31, .int .i64 x_32] ++ arrI .u8 f_7 16 0)) 0, Blk.mk n_7 48 (arrI .u8 f_4 32 0 ++ ([Value.string x_19, .string x_20, .int .i64 x_21, .int .i64 x_22] ++ arrI .u8 f_5 16 0 ++ [Value.int .i64 x_23, .string x_24])) 0, Blk.mk n_6 48
 (arrI .u8 f_2 32 0 ++ ([Value.string x_12, .string x_13, .int .i64 x_14, .int .i64 x_15] ++ arrI .u8 f_3 16 0 ++ [Value.int .i64 x_16, .string x_17])) 0, Blk.mk n_5 48 (arrI .u8 f 32 0 ++ ([Value.string x_5, .string x_6, .int .i64 x_7, .int .i64 x_8] ++ arrI .u8 f_1 16 0 ++ [Value.int .i64 x_9, .string x_10])) 0, Blk.mk n_3 32 [Value.int .u8 3, .int .u8 0, .int .u8 0, .int .u8 0, .int .u8 0, .int .u8 0, .int .u8 0, .int .u8 0, .int .u8 0, .int .u8 0, .int .u8 0, .int .u8 0, .int .u8 0, .int .u8 0, .int .u8 0, .int .u8 0, .int .u8 0, .int .u8 0, .int .u8 0, .int .u8 0, .int .u8 0, .int .u8 0, .int .u8 0, .int .u8 0, .int .u8 0, .int .u8 0, .int .u8 0, .int .u8 0, .int .u8 0, .int .u8 0, .int .u8 0, .int .u8 0] 0, Blk.mk n_2 32 [Value.int .u8 7, .int .u8 0, .int .u8 0, .int .u8 0, .int .u8 0, .int .u8 0, .int .u8 0, .int .u8 0, .int .u8 0, .int .u8 0, .int .u8 0, .int .u8 0, .int .u8 0,
 .int .u8 0, .int .u8 0, .int .u8 0, .int .u8 0, .int .u8 0, .int .u8 0, .int .u8 0, .int .u8 0, .int .u8 0, .int .u8 0, .int .u8 0, .int .u8 0, .int .u8 0, .int .u8 0, .int .u8 0, .int .u8 0, .int .u8 0, .int .u8 0, .int .u8 0] 0, Blk.mk n_1 45 [Value.int .u8 2, .int .u8 0, .int .u8 0, .int .u8 0, .int .u8 0, .int .u8 0, .int .u8 0, .int .u8 0, .int .u8 0, .int .u8 0, .int .u8 0, .int .u8 0, .int .u8 0, .int .u8 0, .int .u8 0, .int .u8 0] 0, Blk.mk n 45 [Value.int .u8 1, .int .u8 0, .int .u8 0, .int .u8 0, .int .u8 0, .int .u8 0, .int .u8 0, .int .u8 0, .int .u8 0, .int .u8 0, .int .u8 0, .int .u8 0, .int .u8 0, .int .u8 0, .int .u8 0, .int .u8 0] 0] w' W -> AtL W n_11 (0 + 1) (arrI .u8 f_13 32 0)) /\ ∃ (r_3 : Bool), gimp (x_2 == 0 && x_3 == 0 && x_4 == 0 && x_11 == 0 && r && x_42.toList == [(ByteArray.mk #[116, 101, 120, 116, 32, 111, 102, 32, 121]).get! 0, (ByteArray.mk #[116, 101,
 120, 116, 32, 111, 102, 32, 121]).get! (0 + 1), (ByteArray.mk #[116, 101, 120, 116, 32, 111, 102, 32, 121]).get! 2, (ByteArray.mk #[116, 101, 120, 116, 32, 111, 102, 32, 121]).get! 3, (ByteArray.mk #[116, 101, 120, 116, 32, 111, 102, 32, 121]).get! 4, (ByteArray.mk #[116, 101, 120, 116, 32, 111, 102, 32, 121]).get! 5, (ByteArray.mk #[116, 101, 120, 116, 32, 111, 102, 32, 121]).get! 6, (ByteArray.mk #[116, 101, 120, 116, 32, 111, 102, 32, 121]).get! 7, (ByteArray.mk #[116, 101, 120, 116, 32, 111, 102, 32, 121]).get! 8] && r_1 && r_2 && x_33 == 25 && x_41 == 0 && x_43 == 2) (EqP Tryz.prog 32 (.agg (arrI .u8 f_13 32 0).toArray) (.agg #[.int .u8 3, .int .u8 0, .int .u8 0, .int .u8 0, .int .u8 0, .int .u8 0, .int .u8 0, .int .u8 0, .int .u8 0, .int .u8 0, .int .u8 0, .int .u8 0, .int .u8 0, .int .u8 0, .int .u8 0, .int .u8 0, .int .u8 0, .int .u8 0, .int .u8 0, .int .u8 0, .int .u8 0, .int
 .u8 0, .int .u8 0, .int .u8 0, .int .u8 0, .int .u8 0, .int .u8 0, .int .u8 0, .int .u8 0, .int .u8 0, .int .u8 0, .int .u8 0]) r_3) /\ ∃ (x_44 : ByteArray), gimp (x_2 == 0 && x_3 == 0 && x_4 == 0 && x_11 == 0 && r && x_42.toList == [(ByteArray.mk #[116, 101, 120, 116, 32, 111, 102, 32, 121]).get! 0, (ByteArray.mk #[116, 101, 120, 116, 32, 111, 102, 32, 121]).get! (0 + 1), (ByteArray.mk #[116, 101, 120, 116, 32, 111, 102, 32, 121]).get! 2, (ByteArray.mk #[116, 101, 120, 116, 32, 111, 102, 32, 121]).get! 3, (ByteArray.mk #[116, 101, 120, 116, 32, 111, 102, 32, 121]).get! 4, (ByteArray.mk #[116, 101, 120, 116, 32, 111, 102, 32, 121]).get! 5, (ByteArray.mk #[116, 101, 120, 116, 32, 111, 102, 32, 121]).get! 6, (ByteArray.mk #[116, 101, 120, 116, 32, 111, 102, 32, 121]).get! 7, (ByteArray.mk #[116, 101, 120, 116, 32, 111, 102, 32, 121]).get! 8] && r_1 && r_2 && x_33 == 25 && x_41 == 0 &&
 x_43 == 2 && r_3) (∀ (W : World), Loc w.heap.size [Blk.mk n_11 42 ([Value.int .i64 x_34] ++ arrI .u8 f_8 32 0 ++ ([Value.string x_35, .int .i64 x_36, .bool x_37, .slice p_1 n_10 c_1, .string x_38, .int .i64 x_39, .int .i64 x_40] ++ arrI .u8 f_9 16 0)) (wrM 2), Blk.mk n_9 42 ([Value.int .i64 x_26] ++ arrI .u8 f_6 32 0 ++ ([Value.string x_27, .int .i64 x_28, .bool x_29, .slice p n_8 c, .string x_30, .int .i64 x_31, .int .i64 x_32] ++ arrI .u8 f_7 16 0)) 0, Blk.mk n_7 48 (arrI .u8 f_4 32 0 ++ ([Value.string x_19, .string x_20, .int .i64 x_21, .int .i64 x_22] ++ arrI .u8 f_5 16 0 ++ [Value.int .i64 x_23, .string x_24])) 0, Blk.mk n_6 48 (arrI .u8 f_2 32 0 ++ ([Value.string x_12, .string x_13, .int .i64 x_14, .int .i64 x_15] ++ arrI .u8 f_3 16 0 ++ [Value.int .i64 x_16, .string x_17])) 0, Blk.mk n_5 48 (arrI .u8 f 32 0 ++ ([Value.string x_5, .string x_6, .int .i64 x_7, .int .i64
 x_8] ++ arrI .u8 f_1 16 0 ++ [Value.int .i64 x_9, .string x_10])) 0, Blk.mk n_3 32 [Value.int .u8 3, .int .u8 0, .int .u8 0, .int .u8 0, .int .u8 0, .int .u8 0, .int .u8 0, .int .u8 0, .int .u8 0, .int .u8 0, .int .u8 0, .int .u8 0, .int .u8 0, .int .u8 0, .int .u8 0, .int .u8 0, .int .u8 0, .int .u8 0, .int .u8 0, .int .u8 0, .int .u8 0, .int .u8 0, .int .u8 0, .int .u8 0, .int .u8 0, .int .u8 0, .int .u8 0, .int .u8 0, .int .u8 0, .int .u8 0, .int .u8 0, .int .u8 0] 0, Blk.mk n_2 32 [Value.int .u8 7, .int .u8 0, .int .u8 0, .int .u8 0, .int .u8 0, .int .u8 0, .int .u8 0, .int .u8 0, .int .u8 0, .int .u8 0, .int .u8 0, .int .u8 0, .int .u8 0, .int .u8 0, .int .u8 0, .int .u8 0, .int .u8 0, .int .u8 0, .int .u8 0, .int .u8 0, .int .u8 0, .int .u8 0, .int .u8 0, .int .u8 0, .int .u8 0, .int .u8 0, .int .u8 0, .int .u8 0, .int .u8 0, .int .u8 0, .int .u8 0, .int .u8 0] 0, Blk.mk n_1 45
 [Value.int .u8 2, .int .u8 0, .int .u8 0, .int .u8 0, .int .u8 0, .int .u8 0, .int .u8 0, .int .u8 0, .int .u8 0, .int .u8 0, .int .u8 0, .int .u8 0, .int .u8 0, .int .u8 0, .int .u8 0, .int .u8 0] 0, Blk.mk n 45 [Value.int .u8 1, .int .u8 0, .int .u8 0, .int .u8 0, .int .u8 0, .int .u8 0, .int .u8 0, .int .u8 0, .int .u8 0, .int .u8 0, .int .u8 0, .int .u8 0, .int .u8 0, .int .u8 0, .int .u8 0, .int .u8 0] 0] w' W -> W.cell? (Addr.mk n_11 (0 + 33) none) = some (.string x_44)) /\ ∀ (W : World), Loc w.heap.size [Blk.mk n_11 42 ([Value.int .i64 x_34] ++ arrI .u8 f_8 32 0 ++ ([Value.string x_35, .int .i64 x_36, .bool x_37, .slice p_1 n_10 c_1, .string x_38, .int .i64 x_39, .int .i64 x_40] ++ arrI .u8 f_9 16 0)) (wrM 2), Blk.mk n_9 42 ([Value.int .i64 x_26] ++ arrI .u8 f_6 32 0 ++ ([Value.string x_27, .int .i64 x_28, .bool x_29, .slice p n_8 c, .string x_30, .int .i64 x_31, .int .i64
 x_32] ++ arrI .u8 f_7 16 0)) 0, Blk.mk n_7 48 (arrI .u8 f_4 32 0 ++ ([Value.string x_19, .string x_20, .int .i64 x_21, .int .i64 x_22] ++ arrI .u8 f_5 16 0 ++ [Value.int .i64 x_23, .string x_24])) 0, Blk.mk n_6 48 (arrI .u8 f_2 32 0 ++ ([Value.string x_12, .string x_13, .int .i64 x_14, .int .i64 x_15] ++ arrI .u8 f_3 16 0 ++ [Value.int .i64 x_16, .string x_17])) 0, Blk.mk n_5 48 (arrI .u8 f 32 0 ++ ([Value.string x_5, .string x_6, .int .i64 x_7, .int .i64 x_8] ++ arrI .u8 f_1 16 0 ++ [Value.int .i64 x_9, .string x_10])) 0, Blk.mk n_3 32 [Value.int .u8 3, .int .u8 0, .int .u8 0, .int .u8 0, .int .u8 0, .int .u8 0, .int .u8 0, .int .u8 0, .int .u8 0, .int .u8 0, .int .u8 0, .int .u8 0, .int .u8 0, .int .u8 0, .int .u8 0, .int .u8 0, .int .u8 0, .int .u8 0, .int .u8 0, .int .u8 0, .int .u8 0, .int .u8 0, .int .u8 0, .int .u8 0, .int .u8 0, .int .u8 0, .int .u8 0, .int .u8 0, .int .u8 0,
 .int .u8 0, .int .u8 0, .int .u8 0] 0, Blk.mk n_2 32 [Value.int .u8 7, .int .u8 0, .int .u8 0, .int .u8 0, .int .u8 0, .int .u8 0, .int .u8 0, .int .u8 0, .int .u8 0, .int .u8 0, .int .u8 0, .int .u8 0, .int .u8 0, .int .u8 0, .int .u8 0, .int .u8 0, .int .u8 0, .int .u8 0, .int .u8 0, .int .u8 0, .int .u8 0, .int .u8 0, .int .u8 0, .int .u8 0, .int .u8 0, .int .u8 0, .int .u8 0, .int .u8 0, .int .u8 0, .int .u8 0, .int .u8 0, .int .u8 0] 0, Blk.mk n_1 45 [Value.int .u8 2, .int .u8 0, .int .u8 0, .int .u8 0, .int .u8 0, .int .u8 0, .int .u8 0, .int .u8 0, .int .u8 0, .int .u8 0, .int .u8 0, .int .u8 0, .int .u8 0, .int .u8 0, .int .u8 0, .int .u8 0] 0, Blk.mk n 45 [Value.int .u8 1, .int .u8 0, .int .u8 0, .int .u8 0, .int .u8 0, .int .u8 0, .int .u8 0, .int .u8 0, .int .u8 0, .int .u8 0, .int .u8 0, .int .u8 0, .int .u8 0, .int .u8 0, .int .u8 0, .int .u8 0] 0] w' W -> bsp (x_2 == 0 &&
 x_3 == 0 && x_4 == 0 && x_11 == 0 && r && x_42.toList == [(ByteArray.mk #[116, 101, 120, 116, 32, 111, 102, 32, 121]).get! 0, (ByteArray.mk #[116, 101, 120, 116, 32, 111, 102, 32, 121]).get! (0 + 1), (ByteArray.mk #[116, 101, 120, 116, 32, 111, 102, 32, 121]).get! 2, (ByteArray.mk #[116, 101, 120, 116, 32, 111, 102, 32, 121]).get! 3, (ByteArray.mk #[116, 101, 120, 116, 32, 111, 102, 32, 121]).get! 4, (ByteArray.mk #[116, 101, 120, 116, 32, 111, 102, 32, 121]).get! 5, (ByteArray.mk #[116, 101, 120, 116, 32, 111, 102, 32, 121]).get! 6, (ByteArray.mk #[116, 101, 120, 116, 32, 111, 102, 32, 121]).get! 7, (ByteArray.mk #[116, 101, 120, 116, 32, 111, 102, 32, 121]).get! 8] && r_1 && r_2 && x_33 == 25 && x_41 == 0 && x_43 == 2 && r_3 && x_44.toList == [(ByteArray.mk #[103]).get! 0]) (CallsS Tryz.prog 15 #[.pointer x, .string (ByteArray.mk #[103]), .int .i64 1] W fun (e : Ending) (w' :
 World) => ∃ (x : Int), e = .returned (.int .i64 x) /\ KeptL [n_11, n_9, n_7, n_6, n_5, n_3, n_2, n_1, n] W w' /\ R (.returned (.bool (true && x == 1))) w') (KeptL [n_11, n_9, n_7, n_6, n_5, n_3, n_2, n_1, n] W W /\ R (.returned (.bool false)) W))
theorem vc_lknown (w : World) (R : Ending -> World -> Prop) (h : VC_lknown w R) : Calls Tryz.prog 14 ([] : List Value).toArray w R :=
 calls_of_exec2' (loops := []) (tails := []) (joins := []) (boxes := []) (rngs := []) (c := Tryz.f14.body.getD .skip) pur1_ok Tryz.func14 (by kernel_rfl) (by kernel_rfl) h

end Go.Proofs.YtfacflbmlfbeeaaGreatDoor

/- Chapter 39: the example of the chapter holds; ModerationNew on worlds. The library's variable MaxLen holds a number. -/
namespace Go.Proofs.YtfacflbmlfbeeaaGreatDoor
open Go.RowKit Go.Sort Go.Maps

theorem kidEq {u v : Int} (hu : 0 ≤ u ∧ u ≤ 255) (hv : 0 ≤ v ∧ v ≤ 255) {r : Bool} (hr : r = decide (idI (k39 u) = idI (k39 v))) : EqP Tryz.prog 32 (.agg (arrI .u8 (k39 u) 32 0).toArray) (.agg (arrI .u8 (k39 v) 32 0).toArray) r := by
  rw [hr]; exact idEqF (k39_BY hu) (k39_BY hv)
set_option maxRecDepth 100000 in
set_option maxHeartbeats 8000000 in
theorem known_any (w : World) (hG : GW w) : Calls Tryz.prog 14 #[] w fun e w' => e = .returned (.bool true) ∧ K0 w w' := by
  have hw0 : 0 < w.heap.size := by
    obtain ⟨m, hm⟩ := hG
    unfold World.cell? at hm
    rcases Nat.lt_or_ge 0 w.heap.size with h | h
    · exact h
    · simp only [Array.getElem?_eq_none h] at hm
      cases hm
  refine vc_lknown w _ ⟨(mnew_any 5 14 w hw0).mono fun e w1 hN => ?_⟩
  rcases hN with ⟨h, _⟩ | ⟨_, b, mb, eb, he, hq, k1, gb, gm, ge⟩
  · exact absurd h (by decide)
  refine ⟨_, _, he, .of_k0 k1, bsp_intro (fun h => by cases h) (fun _ n n1 n2 n3 n4 W hW => ?_)⟩
  have k2 : K0 w1 W := hW.kk rfl
  have fresh : ∀ {wa wb : World}, K0 w wa → Kp (QB b mb eb) wa wb → K0 w wb := fun ka hk => ka.fresh hk (fun j hj e => by rcases e with e | e | e <;> omega)
  have hG' : ∀ {wa : World}, K0 w wa → GW wa := fun k => hG.kp k (fun h => h)
  have c0 := hW.cells 0 rfl
  have c1 := hW.cells 1 rfl
  have c2 := hW.cells 2 rfl
  have c3 := hW.cells 3 rfl
  have c4 := hW.cells 4 rfl
  have kT2 := k1.trans k2
  have hR : RowA auC 16 W (some ⟨n4, 0, none⟩) [k39 2, k39 1] := fun k y hy => by
    match k, hy with
    | 0, hy => cases hy; exact ⟨n4, 0, rfl, AtL_block c0 rfl⟩
    | 1, hy => cases hy; exact ⟨n4, 0, rfl, AtL_block c0 rfl⟩
    | k + 2, hy => cases hy
  have q2 := hq.k0 k2
  have hb1 := block_lt hq.st
  have hm1 := hq.mm.lt
  have he1 := hq.me.lt
  have kept : ∀ {wa wb : World} {ns : List Nat}, Kp (QB b mb eb) wa wb → (∀ z ∈ ns, w1.heap.size ≤ z) → KeptL ns wa wb := fun hk hns => .of_kp hk fun z hz e => by
    have := hns z hz
    rcases e with e | e | e <;> omega
  have g0 : w1.heap.size ≤ n4 := hW.fresh 0 rfl rfl
  have g1 : w1.heap.size ≤ n3 := hW.fresh 1 rfl rfl
  have g2 : w1.heap.size ≤ n2 := hW.fresh 2 rfl rfl
  have g3 : w1.heap.size ≤ n1 := hW.fresh 3 rfl rfl
  have g4 : w1.heap.size ≤ n := hW.fresh 4 rfl rfl
  have gN : ∀ z ∈ [n3, n2, n1, n], w1.heap.size ≤ z := fun z hz => by
    simp only [List.mem_cons, List.not_mem_nil, or_false] at hz
    rcases hz with rfl | rfl | rfl | rfl <;> assumption
  have cons : ∀ {z : Nat} {ns : List Nat}, w1.heap.size ≤ z → (∀ y ∈ ns, w1.heap.size ≤ y) → ∀ y ∈ z :: ns, w1.heap.size ≤ y := fun hz hns y hy => by
    rcases List.mem_cons.1 hy with rfl | h
    · exact hz
    · exact hns y h
  have b7 : BY (k39 7) := k39_BY (by decide)
  have b3 : BY (k39 3) := k39_BY (by decide)
  have b1 : BY (k39 1) := k39_BY (by decide)
  have b2 : BY (k39 2) := k39_BY (by decide)
  have gk : kG.size ≤ 1073741824 := by decide
  refine ⟨(setMods_any q2 kG [k39 2, k39 1] (some ⟨n4, 0, none⟩) 2 hR (fun g o e => by cases e; exact block_lt c0) (fun m hm => (kml m hm).1) (hG' kT2)).mono fun e w3 ⟨he, ⟨q', hS, hq3⟩, k3⟩ => ?_⟩
  have hok3 := kq0_ok.setR kml hS
  obtain ⟨x, hx, rfl⟩ := kset_iff hS
  rw [k_set] at he
  refine ⟨_, he, kept k3 gN, ?_⟩
  have kT3 := fresh kT2 k3
  refine ⟨(submit_any hq3 hok3 (k39 7) b7 kG kX 10 (hG' kT3)).mono fun e w4 ⟨he, hq4, k4⟩ => ?_⟩
  have hok4 := hok3.sub (g := kG) (tx := kX) (now := 10) ⟨b7, k39_NZ (by decide) 7⟩
  rw [k_sub1 hx] at he
  rw [k_subQ1 hx] at hq4 hok4
  refine ⟨_, he, kept k4 gN, ?_⟩
  have kT4 := fresh kT3 k4
  refine ⟨(submit_any hq4 hok4 (k39 3) b3 kG kY 5 (hG' kT4)).mono fun e w5 ⟨he, hq5, k5⟩ => ?_⟩
  have hok5 := hok4.sub (g := kG) (tx := kY) (now := 5) ⟨b3, k39_NZ (by decide) 3⟩
  rw [k_sub2 hx] at he
  rw [k_subQ2 hx] at hq5 hok5
  refine ⟨_, he, kept k5 gN, ?_⟩
  have kT5 := fresh kT4 k5
  refine ⟨(claim_any hq5 hok5 (show (2 : Nat) ≤ 1000000 by decide) kG gk (k39 1) b1 20 (hG' kT5)).mono fun e w6 hC => ?_⟩
  have hC1 := k_clm hx 1 (.inl rfl) (es := [(kx, kex), (ky, key_)]) (by rw [k_sel1]; decide)
  rcases hC with ⟨h, _⟩ | ⟨_, s, hs, hmin, he, hq6, k6⟩
  · exact absurd hC1 h
  rw [k_sel1] at hs hmin
  obtain rfl := k_min hs hmin
  have hok6 := hok5.clm hq5.dis (P := clP kG (auI (k39 1)) 20) (x := key_.s) (a := k39 1) (now := 20) (by show key_.s ∈ isSel (kq x 2 [(kx, kex), (ky, key_)]) kG (auI (k39 1)) 20; rw [k_sel1]; exact hs) ⟨b1, k39_NZ (by decide) 1⟩ ⟨by decide, by decide⟩
  have e6 : ({ kq x 2 [(kx, kex), (ky, key_)] with es := aset (kq x 2 [(kx, kex), (ky, key_)]).es key_.s.ky ⟨key_.s, true, k39 1, 20⟩ } : Qu) = kq x 2 [(kx, kex), (ky, key2)] := by
    show kq x 2 (aset [(kx, kex), (ky, key_)] ky key2) = _
    rw [k_set1]
  rw [e6] at hq6 hok6
  refine ⟨_, _, _, _, _, _, _, _, _, he, kept k6 gN, fun n5 W7 hW7 => ?_⟩
  have kT6 := fresh kT5 k6
  have k7 : K0 w6 W7 := hW7.kk rfl
  have kT7 := kT6.trans k7
  have gn5 : w1.heap.size ≤ n5 := by
    have h1 : w6.heap.size ≤ n5 := hW7.fresh 0 rfl rfl
    have h2 := k2.size
    have h3 := k3.size
    have h4 := k4.size
    have h5 := k5.size
    have h6 := k6.size
    omega
  have gN5 := cons gn5 gN
  have hq7 := hq6.k0 k7
  refine ⟨(claim_any hq7 hok6 (show (2 : Nat) ≤ 1000000 by decide) kG gk (k39 1) b1 20 (hG' kT7)).mono fun e w8 hC => ?_⟩
  have hC2 := k_clm hx 1 (.inl rfl) (es := [(kx, kex), (ky, key2)]) (by rw [k_sel2]; decide)
  rcases hC with ⟨h, _⟩ | ⟨_, s, hs, hmin, he, hq8, k8⟩
  · exact absurd hC2 h
  rw [k_sel2] at hs hmin
  obtain rfl := k_min hs hmin
  have hok8 := hok6.clm hq7.dis (P := clP kG (auI (k39 1)) 20) (x := key_.s) (a := k39 1) (now := 20) (by show key_.s ∈ isSel (kq x 2 [(kx, kex), (ky, key2)]) kG (auI (k39 1)) 20; rw [k_sel2]; exact hs) ⟨b1, k39_NZ (by decide) 1⟩ ⟨by decide, by decide⟩
  have e8 : ({ kq x 2 [(kx, kex), (ky, key2)] with es := aset (kq x 2 [(kx, kex), (ky, key2)]).es key_.s.ky ⟨key_.s, true, k39 1, 20⟩ } : Qu) = kq x 2 [(kx, kex), (ky, key2)] := by
    show kq x 2 (aset [(kx, kex), (ky, key2)] ky key2) = _
    rw [k_set1]
  rw [e8] at hq8 hok8
  refine ⟨_, _, _, _, _, _, _, _, _, he, kept k8 gN5, fun n6 W9 hW9 => ?_⟩
  have kT8 := fresh kT7 k8
  have k9 : K0 w8 W9 := hW9.kk rfl
  have kT9 := kT8.trans k9
  have gn6 : w1.heap.size ≤ n6 := by
    have h1 : w8.heap.size ≤ n6 := hW9.fresh 0 rfl rfl
    have h2 := k2.size
    have h3 := k3.size
    have h4 := k4.size
    have h5 := k5.size
    have h6 := k6.size
    have h7 := k7.size
    have h8 := k8.size
    omega
  have gN6 := cons gn6 gN5
  have hq9 := hq8.k0 k9
  refine ⟨(claim_any hq9 hok8 (show (2 : Nat) ≤ 1000000 by decide) kG gk (k39 2) b2 20 (hG' kT9)).mono fun e w10 hC => ?_⟩
  have hC3 := k_clm hx 2 (.inr rfl) (es := [(kx, kex), (ky, key2)]) (by rw [k_sel3]; decide)
  rcases hC with ⟨h, _⟩ | ⟨_, s, hs, hmin, he, hq10, k10⟩
  · exact absurd hC3 h
  rw [k_sel3] at hs hmin
  obtain rfl : s = kex.s := by simpa using hs
  have hok10 := hok8.clm hq9.dis (P := clP kG (auI (k39 2)) 20) (x := kex.s) (a := k39 2) (now := 20) (by show kex.s ∈ isSel (kq x 2 [(kx, kex), (ky, key2)]) kG (auI (k39 2)) 20; rw [k_sel3]; exact hs) ⟨b2, k39_NZ (by decide) 2⟩ ⟨by decide, by decide⟩
  have e10 : ({ kq x 2 [(kx, kex), (ky, key2)] with es := aset (kq x 2 [(kx, kex), (ky, key2)]).es kex.s.ky ⟨kex.s, true, k39 2, 20⟩ } : Qu) = kq x 2 [(kx, kex2), (ky, key2)] := by
    show kq x 2 (aset [(kx, kex), (ky, key2)] kx kex2) = _
    rw [k_set2]
  rw [e10] at hq10 hok10
  refine ⟨_, _, _, _, _, _, _, _, _, he, kept k10 gN6, fun n7 W11 hW11 => ?_⟩
  have kT10 := fresh kT9 k10
  have k11 : K0 w10 W11 := hW11.kk rfl
  have kT11 := kT10.trans k11
  have gn7 : w1.heap.size ≤ n7 := by
    have h1 : w10.heap.size ≤ n7 := hW11.fresh 0 rfl rfl
    have h2 := k2.size
    have h3 := k3.size
    have h4 := k4.size
    have h5 := k5.size
    have h6 := k6.size
    have h7 := k7.size
    have h8 := k8.size
    have h9 := k9.size
    have h10 := k10.size
    omega
  have gN7 := cons gn7 gN6
  have hq11 := hq10.k0 k11
  refine ⟨(approve_any hq11 hok10 (show (2 : Nat) ≤ 10000 by decide) (k39 3) b3 kG gk (k39 2) b2 79).mono fun e w12 ⟨he, hq12, k12⟩ => ?_⟩
  rw [k_ap79 hx] at he
  rw [k_apQ79 hx] at hq12
  refine ⟨0, fun _ => 0, ⟨#[]⟩, 0, false, none, 0, 0, ⟨#[]⟩, 0, 0, fun _ => 0, 25, he, kept k12 gN7, fun n9 W13 hW13 => ?_⟩
  have kT12 := fresh kT11 k12
  have k13 : K0 w12 W13 := hW13.kk rfl
  have kT13 := kT12.trans k13
  have gn9 : w1.heap.size ≤ n9 := by
    have h1 : w12.heap.size ≤ n9 := hW13.fresh 0 rfl rfl
    have h2 := k2.size
    have h3 := k3.size
    have h4 := k4.size
    have h5 := k5.size
    have h6 := k6.size
    have h7 := k7.size
    have h8 := k8.size
    have h9 := k9.size
    have h10 := k10.size
    have h11 := k11.size
    have h12 := k12.size
    omega
  have gN9 := cons gn9 gN7
  have hq13 := hq12.k0 k13
  refine ⟨(approve_any hq13 hok10 (show (2 : Nat) ≤ 10000 by decide) (k39 3) b3 kG gk (k39 2) b2 80).mono fun e w14 ⟨he, hq14, k14⟩ => ?_⟩
  have hok14 : (apQ (kq x 2 [(kx, kex2), (ky, key2)]) (k39 3) kG (k39 2) 80 1 ⟨#[]⟩).OK := by
    unfold apQ
    rw [if_neg (by decide)]
    exact hok10.dec ⟨b2, k39_NZ (by decide) 2⟩ ⟨by decide, by decide⟩ ⟨by decide, by decide⟩ (by decide)
  rw [k_ap80 hx] at he
  rw [k_apQ80 hx] at hq14 hok14
  have kT14 := fresh kT13 k14
  refine ⟨2, k39 3, kG, 0, false, none, 0, 0, ⟨#[]⟩, 0, 0, fun _ => 0, 0, he, kept k14 gN9, fun n11 => ?_⟩
  refine ⟨k39 3, gimp_intro fun _ W15 hW15 => AtL_block (hW15.cells 4 rfl) rfl, true, gimp_intro fun _ => kidEq (by decide) (by decide) (by decide +kernel), kY, gimp_intro fun _ W15 hW15 => cell_at (hW15.cells 4 rfl) rfl,
    k39 3, gimp_intro fun _ W15 hW15 => AtL_block (hW15.cells 3 rfl) rfl, true, gimp_intro fun _ => kidEq (by decide) (by decide) (by decide +kernel),
    k39 7, gimp_intro fun _ W15 hW15 => AtL_block (hW15.cells 2 rfl) rfl, true, gimp_intro fun _ => kidEq (by decide) (by decide) (by decide +kernel),
    2, gimp_intro fun _ W15 hW15 => cell_at (hW15.cells 0 rfl) rfl, k39 3, gimp_intro fun _ W15 hW15 => AtL_block (hW15.cells 0 rfl) rfl, true, gimp_intro fun _ => kidEq (by decide) (by decide) (by decide +kernel), kG, gimp_intro fun _ W15 hW15 => cell_at (hW15.cells 0 rfl) rfl, fun W15 hW15 => ?_⟩
  have k15 : K0 w14 W15 := hW15.kk rfl
  have kT15 := kT14.trans k15
  refine bsp_intro (fun _ => ?_) (fun h => absurd h (by decide +kernel))
  refine ⟨(count_any (hq14.k0 k15) hok14 (show (2 : Nat) ≤ 1000000 by decide) kG 1 (hG' kT15)).mono fun e w16 ⟨he, k16⟩ => ⟨_, he, .of_k0 k16, ?_, kT15.trans k16⟩⟩
  show Ending.returned (.bool (true && (((selE (lsP kG 1) [(kx, kex2), (ky, key3)]).length : Nat) : Int) == 1)) = _
  rw [k_cnt]
  rfl

/-! ### New, Moderators -/
end Go.Proofs.YtfacflbmlfbeeaaGreatDoor

/- The formulas of functions by the symbolic evaluator, and that each gives the call's contract. Written by a program (gen.py). No condition. -/
namespace Go.Proofs.YtfacflbmlfbeeaaGreatDoor
set_option maxRecDepth 100000
set_option linter.unusedVariables false

def VC_lname (n : Int) (w : World) (R : Ending -> World -> Prop) : Prop := ∀ (n_1 : Nat) (W : World), Loc w.heap.size [Blk.mk n_1 9 [Value.string (ByteArray.mk #[103]), .string (ByteArray.mk #[103]), .string (ByteArray.mk #[97, 46, 98]), .string (ByteArray.mk #[103]), .string (ByteArray.mk #[104]), .string (ByteArray.mk #[]), .string (ByteArray.mk #[71])] 2] w W -> (0 <= n.tmod 7 /\ n.tmod 7 < (↑7 : Int)) /\ ∃ (x : ByteArray), W.cell? (Addr.mk n_1 (0 + (n.tmod 7).toNat) none) = some (.string x) /\ R (.returned (.string x)) W
theorem vc_lname (n : Int) (w : World) (R : Ending -> World -> Prop) (h : VC_lname n w R) : Calls Tryz.prog 30 ([Value.int .u8 n] : List Value).toArray w R :=
 calls_of_exec2' (loops := []) (tails := []) (joins := []) (boxes := []) (rngs := []) (c := Tryz.f30.body.getD .skip) pur1_ok Tryz.func30 (by kernel_rfl) (by kernel_rfl) h

def VC_lid (n : Int) (w : World) (R : Ending -> World -> Prop) : Prop := ∀ (n_1 : Nat) (W : World), Loc w.heap.size [Blk.mk n_1 32 [Value.int .u8 0, .int .u8 0, .int .u8 0, .int .u8 0, .int .u8 0, .int .u8 0, .int .u8 0, .int .u8 0, .int .u8 0, .int .u8 0, .int .u8 0, .int .u8 0, .int .u8 0, .int .u8 0, .int .u8 0, .int .u8 0, .int .u8 0, .int .u8 0, .int .u8 0, .int .u8 0, .int .u8 0, .int .u8 0, .int .u8 0, .int .u8 0, .int .u8 0, .int .u8 0, .int .u8 0, .int .u8 0, .int .u8 0, .int .u8 0, .int .u8 0, .int .u8 (n.tmod 6)] (wrM 2)] w W -> R (.returned (.agg #[.int .u8 0, .int .u8 0, .int .u8 0, .int .u8 0, .int .u8 0, .int .u8 0, .int .u8 0, .int .u8 0, .int .u8 0, .int .u8 0, .int .u8 0, .int .u8 0, .int .u8 0, .int .u8 0, .int .u8 0, .int .u8 0, .int .u8 0, .int .u8 0, .int .u8 0, .int .u8 0, .int .u8 0, .int .u8 0, .int .u8 0, .int .u8 0,
 .int .u8 0, .int .u8 0, .int .u8 0, .int .u8 0, .int .u8 0, .int .u8 0, .int .u8 0, .int .u8 (n.tmod 6)])) W
theorem vc_lid (n : Int) (w : World) (R : Ending -> World -> Prop) (h : VC_lid n w R) : Calls Tryz.prog 29 ([Value.int .u8 n] : List Value).toArray w R :=
 calls_of_exec2' (loops := []) (tails := []) (joins := []) (boxes := []) (rngs := []) (c := Tryz.f29.body.getD .skip) pur1_ok Tryz.func29 (by kernel_rfl) (by kernel_rfl) h

def VC_lauthor (n : Int) (w : World) (R : Ending -> World -> Prop) : Prop := ∀ (n_1 : Nat) (W : World), Loc w.heap.size [Blk.mk n_1 45 [Value.int .u8 0, .int .u8 0, .int .u8 0, .int .u8 0, .int .u8 0, .int .u8 0, .int .u8 0, .int .u8 0, .int .u8 0, .int .u8 0, .int .u8 0, .int .u8 0, .int .u8 0, .int .u8 0, .int .u8 0, .int .u8 (n.tmod 4)] (wrM 2)] w W -> R (.returned (.agg #[.int .u8 0, .int .u8 0, .int .u8 0, .int .u8 0, .int .u8 0, .int .u8 0, .int .u8 0, .int .u8 0, .int .u8 0, .int .u8 0, .int .u8 0, .int .u8 0, .int .u8 0, .int .u8 0, .int .u8 0, .int .u8 (n.tmod 4)])) W
theorem vc_lauthor (n : Int) (w : World) (R : Ending -> World -> Prop) (h : VC_lauthor n w R) : Calls Tryz.prog 20 ([Value.int .u8 n] : List Value).toArray w R :=
 calls_of_exec2' (loops := []) (tails := []) (joins := []) (boxes := []) (rngs := []) (c := Tryz.f20.body.getD .skip) pur1_ok Tryz.func20 (by kernel_rfl) (by kernel_rfl) h

end Go.Proofs.YtfacflbmlfbeeaaGreatDoor

/- Chapter 39: the contracts of the functions of a nil queue, of the law's name, id, author. No condition. -/
namespace Go.Proofs.YtfacflbmlfbeeaaGreatDoor
open Go.RowKit Go.Sort Go.Maps

/-! ### The law's own functions -/
def nmG (n : Int) : ByteArray := match (n.tmod 7).toNat with
  | 2 => ⟨#[97, 46, 98]⟩
  | 4 => ⟨#[104]⟩
  | 5 => ⟨#[]⟩
  | 6 => ⟨#[71]⟩
  | _ => ⟨#[103]⟩
theorem lname_any (n : Int) (hn : 0 ≤ n) (w : World) : Calls Tryz.prog 30 #[.int .u8 n] w fun e w' => e = .returned (.string (nmG n)) ∧ K0 w w' := by
  refine vc_lname n w _ (fun n1 W hW => ⟨?_, nmG n, ?_, rfl, hW.kk rfl⟩)
  · rw [Int.tmod_eq_emod_of_nonneg hn]; omega
  · have h7 : (n.tmod 7).toNat < 7 := by rw [Int.tmod_eq_emod_of_nonneg hn]; omega
    unfold nmG
    generalize (n.tmod 7).toNat = k at h7
    obtain rfl | rfl | rfl | rfl | rfl | rfl | rfl : k = 0 ∨ k = 1 ∨ k = 2 ∨ k = 3 ∨ k = 4 ∨ k = 5 ∨ k = 6 := by omega
    all_goals exact cell_at (hW.cells 0 rfl) rfl
def idN (n : Int) : Nat → Int := fun j => if j = 31 then n.tmod 6 else 0
def auN (n : Int) : Nat → Int := fun j => if j = 15 then n.tmod 4 else 0
theorem idN_ok {n : Int} (hn : 0 ≤ n) : BY (idN n) ∧ NZ 32 (idN n) := by
  refine ⟨fun j => ?_, fun j hj => ?_⟩
  · unfold idN
    rw [Int.tmod_eq_emod_of_nonneg hn]
    split <;> omega
  · unfold idN
    rw [if_neg (by omega)]
theorem auN_ok {n : Int} (hn : 0 ≤ n) : BY (auN n) ∧ NZ 16 (auN n) := by
  refine ⟨fun j => ?_, fun j hj => ?_⟩
  · unfold auN
    rw [Int.tmod_eq_emod_of_nonneg hn]
    split <;> omega
  · unfold auN
    rw [if_neg (by omega)]
theorem lid_any (n : Int) (w : World) : Calls Tryz.prog 29 #[.int .u8 n] w fun e w' => e = .returned (.agg (arrI .u8 (idN n) 32 0).toArray) ∧ K0 w w' :=
  vc_lid n w _ (fun _ _ hW => ⟨rfl, hW.k0 (.refl _ _)⟩)
theorem lauthor_any (n : Int) (w : World) : Calls Tryz.prog 20 #[.int .u8 n] w fun e w' => e = .returned (.agg (arrI .u8 (auN n) 16 0).toArray) ∧ K0 w w' :=
  vc_lauthor n w _ (fun _ _ hW => ⟨rfl, hW.k0 (.refl _ _)⟩)

end Go.Proofs.YtfacflbmlfbeeaaGreatDoor

/- Chapter 39: the queue and the model side by side in the memory. -/
namespace Go.Proofs.YtfacflbmlfbeeaaGreatDoor
open Go.RowKit Go.Sort Go.Maps

/-- Both, made behind the world w0. -/
structure SW (w0 w : World) (b mb eb m : Nat) (q : Qu) (M : Mo) (P : Pl) : Prop where
  mq : Mq w b mb eb q
  qs : QSep w q
  mr : MoR w w0.heap.size m M P
  k : K0 w0 w
  gb : w0.heap.size ≤ b
  gm : w0.heap.size ≤ mb
  ge : w0.heap.size ≤ eb
section
variable {w0 w w' : World} {b mb eb m : Nat} {q q' : Qu} {M M' : Mo} {P P' : Pl}
theorem SW.k0 (h : SW w0 w b mb eb m q M P) (hk : K0 w w') : SW w0 w' b mb eb m q M P := ⟨h.mq.k0 hk, h.qs.k0 hk, h.mr.k0 hk, h.k.trans hk, h.gb, h.gm, h.ge⟩
theorem SW.qb (h : SW w0 w b mb eb m q M P) (hk : Kp (QB b mb eb) w w') : K0 w0 w' := h.k.fresh hk (fun i hi e => by
  have h1 := h.gb
  have h2 := h.gm
  have h3 := h.ge
  rcases e with e | e | e <;> omega)
theorem SW.mf (h : SW w0 w b mb eb m q M P) (hk : Kp (MF w w0.heap.size) w w') : K0 w0 w' := h.k.fresh hk (fun i hi e => by have := e.1; omega)
theorem SW.qopS (h : SW w0 w b mb eb m q M P) (hm : Mq w' b mb eb q') (hs : QSep w' q') (hk : Kp (QB b mb eb) w w') : SW w0 w' b mb eb m q' M P := ⟨hm, hs, h.mr.qb h.mq hk, h.qb hk, h.gb, h.gm, h.ge⟩
theorem SW.qop (h : SW w0 w b mb eb m q M P) (hm : Mq w' b mb eb q') (hk : Kp (QB b mb eb) w w') (he : q'.ms = q.ms) : SW w0 w' b mb eb m q' M P := h.qopS hm (fun g x hx => (h.qs.qb h.mq hk) g x (by rw [← he]; exact hx)) hk
theorem SW.mop (h : SW w0 w b mb eb m q M P) (hr : MoR w' w0.heap.size m M' P') (hk : Kp (MF w w0.heap.size) w w') : SW w0 w' b mb eb m q M' P' := ⟨h.mq.mf h.qs hk, h.qs.mf hk, hr, h.mf hk, h.gb, h.gm, h.ge⟩
theorem SW.qk (h : SW w0 w b mb eb m q M P) (hk : Kp (QB b mb eb) w w') {ns : List Nat} (hn : ∀ n ∈ ns, ∃ c t f, w.heap[n]? = some (.cells c t f) ∧ (t == 98) = false) : KeptL ns w w' := h.mq.kept hk (fun _ h => h) hn
theorem SW.gw (h : SW w0 w b mb eb m q M P) (hG : GW w0) : GW w := hG.kp h.k (fun h => h)
end
theorem subQ_ms (q : Qu) (id : Nat → Int) (g tx : ByteArray) (now : Int) : (subQ q id g tx now).ms = q.ms := by unfold subQ; split <;> rfl
theorem relQ_ms (q : Qu) (id : Nat → Int) (g : ByteArray) (a : Nat → Int) (now : Int) : (relQ q id g a now).ms = q.ms := by unfold relQ; split <;> rfl
theorem decQ_ms (q : Qu) (id : Nat → Int) (g : ByteArray) (a : Nat → Int) (now st : Int) (rs : ByteArray) : (decQ q id g a now st rs).ms = q.ms := by unfold decQ; split <;> rfl
theorem apQ_ms (q : Qu) (id : Nat → Int) (g : ByteArray) (a : Nat → Int) (now st : Int) (rs : ByteArray) : (apQ q id g a now st rs).ms = q.ms := by unfold apQ; split; rfl; exact decQ_ms ..
theorem rejQ_ms (q : Qu) (id : Nat → Int) (g : ByteArray) (a : Nat → Int) (rs : ByteArray) (now : Int) : (rejQ q id g a rs now).ms = q.ms := by
  unfold rejQ
  repeat' split
  all_goals first | rfl | exact decQ_ms ..
theorem delA_ms : ∀ (L : List Sb) (q : Qu), (delA q L).ms = q.ms
  | [], _ => rfl
  | x :: L, q => (delA_ms L { q with es := adel q.es x.ky }).trans rfl
theorem nmG_sz (n : Int) : (nmG n).size ≤ 1073741824 := by
  unfold nmG
  repeat' split
  all_goals decide
/-! ### What an operation does to the model -/
def txO (t : ByteArray) : ByteArray := t.extract 0 (min t.size 300)
def auK (i a k : Int) : Nat → Int := fun j => if j = 15 then (IntKind.u8.wrap (i * k + a)).tmod 10 else 0
theorem auK_ok (i a k : Int) : BY (auK i a k) ∧ NZ 16 (auK i a k) := by
  refine ⟨fun j => ?_, fun j hj => ?_⟩
  · unfold auK
    split
    · have h : 0 ≤ IntKind.u8.wrap (i * k + a) := by unfold IntKind.wrap; simp [IntKind.bits, IntKind.signed]; omega
      rw [Int.tmod_eq_emod_of_nonneg h]
      omega
    · omega
  · unfold auK
    rw [if_neg (by omega)]
def moL (i a : Int) : List (Nat → Int) := (List.range (a.tmod 12).toNat).map fun k : Nat => auK i a (k : Int)
theorem moL_ok {i a : Int} : ∀ z ∈ moL i a, BY z ∧ NZ 16 z := fun z hz => by
  obtain ⟨k, _, rfl⟩ := List.mem_map.1 hz
  exact auK_ok ..
noncomputable def stpM (k i g a now : Int) (t : ByteArray) (M M' : Mo) : Prop :=
  match (k.tmod 8).toNat with
  | 0 => (xsubE M (idN i) (nmG g) (txO t) now = 0 ∧ ∃ L : List En, L.Perm (newE (idN i) (nmG g) (txO t) now :: M.es) ∧ M' = { M with es := L }) ∨ (xsubE M (idN i) (nmG g) (txO t) now ≠ 0 ∧ M' = M)
  | 1 => M' = xclM M (nmG g) (auN a) now
  | 2 => M' = xrlM M (idI (idN i), nmG g) (auN a) now
  | 3 => M' = xdcM M (idN i) (nmG g) (auN a) 1 ⟨#[]⟩ now
  | 4 => M' = xdcM M (idN i) (nmG g) (auN a) 2 (txO t) now
  | 5 => M' = xlpM M now
  | 6 => M' = { M with es := M.es.filter (kpP now) }
  | _ => (setE (nmG g) (moL i a) = 0 ∧ ∃ X : MX, X.l.Perm (moL i a) ∧ (X.l.Pairwise fun x y => cfA x y < 0) ∧ M' = { M with gs := gset M.gs (nmG g) X }) ∨ (setE (nmG g) (moL i a) ≠ 0 ∧ M' = M)

end Go.Proofs.YtfacflbmlfbeeaaGreatDoor

/- Chapter 39, plain: what an operation leaves of the entries; leases, lapses. No program in sight but in the definitions. -/
namespace Go.Proofs.YtfacflbmlfbeeaaGreatDoor
open Go.RowKit Go.Sort Go.Maps

/-! ### What an operation changes -/
def ws (M : Mo) : Nat := (M.ls ⟨#[]⟩ 0).length
theorem lsP_e (st : Int) (x : En) : lsP ⟨#[]⟩ st x = (x.s.st == st) := by unfold lsP; simp
theorem ws_eq (M : Mo) : ws M = (M.es.filter fun x => x.s.st == 0).length := by
  unfold ws Mo.ls
  rw [List.length_map, show lsP ⟨#[]⟩ 0 = fun x => x.s.st == 0 from funext fun x => lsP_e 0 x]
def Chg (k g a : Int) (M : Mo) (y y' : En) : Prop :=
  (y'.s = y.s ∧ (y'.ho = y.ho ∨ y'.ho = auN a ∨ y'.ho = fun _ => 0)) ∨
  (y.s.st = 0 ∧ y'.ho = (fun _ => 0) ∧ y'.s.ky = y.s.ky ∧ ((k.tmod 8 = 5 ∧ y'.s.st = 3 ∧ y'.s.mo = fun _ => 0) ∨ ((y'.s.st = 1 ∨ y'.s.st = 2) ∧ y'.s.mo = auN a ∧ y.s.g = nmG g ∧ isMB (M.md (nmG g)) (auN a) = true)))
section
variable {k i g a now : Int} {t : ByteArray} {M M' : Mo}
theorem Chg.refl {y : En} : Chg k g a M y y := .inl ⟨rfl, .inl rfl⟩
theorem Chg.st {y y' : En} (h : Chg k g a M y y') (h0 : y'.s.st = 0) : y.s.st = 0 := by
  rcases h with ⟨e, _⟩ | ⟨e, _⟩
  · rw [← e]; exact h0
  · exact e
theorem Chg.ky {y y' : En} (h : Chg k g a M y y') : y'.s.ky = y.s.ky := by
  rcases h with ⟨e, _⟩ | ⟨_, _, e, _⟩
  · rw [e]
  · exact e
theorem chg_up {c : Ky} {f : En → En} (h : ∀ y ∈ M.es, y.s.ky = c → Chg k g a M y (f y)) : ∃ G : En → En, M.up c f = { M with es := M.es.map G } ∧ ∀ y ∈ M.es, Chg k g a M y (G y) :=
  ⟨fun y => if y.s.ky = c then f y else y, rfl, fun y hy => by
    simp only
    split
    · rename_i e; exact h y hy e
    · exact .refl⟩
theorem chg_no : ∃ G : En → En, M = { M with es := M.es.map G } ∧ ∀ y ∈ M.es, Chg k g a M y (G y) := ⟨id, by rw [List.map_id], fun _ _ => .refl⟩
theorem xdc_some {id : Nat → Int} {g : ByteArray} {a : Nat → Int} {st : Int} {rs : ByteArray} (h : xdcE M id g a st rs now = 0) : isMB (M.md g) a = true ∧ ∃ y, M.fd (idI id, g) = some y ∧ y.s.st = 0 := by
  unfold xdcE at h
  split at h
  · exact absurd h (by decide)
  split at h
  · exact absurd h (by decide)
  split at h
  · exact absurd h (by decide)
  split at h
  · exact absurd h (by decide)
  rename_i hm
  have hm : isMB (M.md g) a = true := by simpa using hm
  cases hf : M.fd (idI id, g) with
  | none => simp only [hf] at h; exact absurd h (by decide)
  | some y =>
    simp only [hf] at h
    refine ⟨hm, y, rfl, ?_⟩
    split at h
    · exact absurd h (by decide)
    · rename_i h0; simpa using h0
theorem xdc_chg {st : Int} {rs : ByteArray} (hd : DisK M.es) (hst : st = 1 ∨ st = 2) : ∃ G : En → En, xdcM M (idN i) (nmG g) (auN a) st rs now = { M with es := M.es.map G } ∧ ∀ y ∈ M.es, Chg k g a M y (G y) := by
  unfold xdcM
  split
  · rename_i h0
    obtain ⟨hm, u, hu, h0⟩ := xdc_some h0
    refine chg_up fun y hy hk => ?_
    have hyu : y = u := by
      have h1 := (fd_iff hd).2 ⟨hy, hk⟩
      have hu : fdL M.es (idI (idN i), nmG g) = some u := hu
      rw [h1] at hu
      cases hu; rfl
    subst hyu
    exact .inr ⟨h0, rfl, rfl, .inr ⟨hst, rfl, (Prod.mk.inj hk).2, hm⟩⟩
  · exact chg_no
theorem stp_cases (hd : DisK M.es) (h : stpM k i g a now t M M') :
    (xsubE M (idN i) (nmG g) (txO t) now = 0 ∧ ∃ L : List En, L.Perm (newE (idN i) (nmG g) (txO t) now :: M.es) ∧ M' = { M with es := L }) ∨
    (∃ G : En → En, M' = { M with es := M.es.map G } ∧ ∀ y ∈ M.es, Chg k g a M y (G y)) ∨
    (k.tmod 8 = 6 ∧ ∃ P : En → Bool, M' = { M with es := M.es.filter P } ∧ ∀ y ∈ M.es, P y = false → y.s.st ≠ 0) ∨
    (∃ gs, M' = { M with gs := gs }) := by
  unfold stpM at h
  split at h
  · rcases h with ⟨h1, L, h2, h3⟩ | ⟨_, h⟩
    · exact .inl ⟨h1, L, h2, h3⟩
    · subst h; exact .inr (.inl chg_no)
  · subst h
    refine .inr (.inl ?_)
    unfold xclM
    split
    · exact chg_up fun y _ _ => .inl ⟨rfl, .inr (.inl rfl)⟩
    · exact chg_no
  · subst h
    refine .inr (.inl ?_)
    unfold xrlM
    split
    · exact chg_up fun y _ _ => .inl ⟨rfl, .inr (.inr rfl)⟩
    · exact chg_no
  · subst h
    exact .inr (.inl (xdc_chg hd (.inl rfl)))
  · subst h
    exact .inr (.inl (xdc_chg hd (.inr rfl)))
  · rename_i hk
    subst h
    refine .inr (.inl ?_)
    unfold xlpM
    split
    · refine ⟨_, rfl, fun y hy => ?_⟩
      unfold lpF
      split
      · rename_i hl
        refine .inr ⟨?_, rfl, rfl, .inl ⟨by omega, rfl, rfl⟩⟩
        unfold lapP at hl
        simp at hl
        exact hl.1
      · exact .refl
    · exact chg_no
  · rename_i hk
    subst h
    refine .inr (.inr (.inl ⟨by omega, _, rfl, fun y _ hp => ?_⟩))
    unfold kpP at hp
    simp at hp
    exact hp.1
  · rcases h with ⟨_, X, _, _, h⟩ | ⟨_, h⟩
    · exact .inr (.inr (.inr ⟨_, h⟩))
    · subst h; exact .inr (.inl chg_no)

/-! ### How many wait -/
theorem ws_map {G : En → En} : ∀ {es : List En}, (∀ y ∈ es, (G y).s.st = 0 → y.s.st = 0) → ((es.map G).filter fun x => x.s.st == 0).length ≤ (es.filter fun x => x.s.st == 0).length
  | [], _ => Nat.le_refl _
  | y :: es, h => by
    have ih := ws_map (es := es) fun z hz => h z (List.mem_cons_of_mem _ hz)
    rw [List.map_cons, List.filter_cons, List.filter_cons]
    have hy := h y List.mem_cons_self
    by_cases h1 : (G y).s.st = 0
    · rw [if_pos (by simpa using h1), if_pos (by simpa using hy h1)]
      simp only [List.length_cons]; omega
    · rw [if_neg (by simpa using h1)]
      split
      · simp only [List.length_cons]; omega
      · exact ih
theorem xsub_room {id : Nat → Int} {g tx : ByteArray} (h0 : xsubE M id g tx now = 0) : ¬ M.room ≤ ((M.ls ⟨#[]⟩ 0).length : Nat) := by
  intro hr
  unfold xsubE at h0
  split at h0
  · exact absurd h0 (by decide)
  split at h0
  · rename_i hg; exact hg h0
  split at h0
  · exact absurd h0 (by decide)
  split at h0
  · exact absurd h0 (by decide)
  split at h0
  · exact absurd h0 (by decide)
  exact absurd h0 (by decide)
theorem ws_ins {id : Nat → Int} {g tx : ByteArray} {L : List En} (h0 : xsubE M id g tx now = 0) (hp : L.Perm (newE id g tx now :: M.es)) : (ws { M with es := L } : Int) ≤ M.room := by
  have h1 := xsub_room h0
  have h2 : ¬ M.room ≤ (ws M : Int) := h1
  have h3 : ws { M with es := L } = ws M + 1 := by
    rw [ws_eq, ws_eq]
    show (L.filter _).length = _
    rw [(hp.filter _).length_eq, List.filter_cons, if_pos (by rfl)]
    rfl
  omega
theorem ws_step (hd : DisK M.es) (h : stpM k i g a now t M M') (hw : (ws M : Int) ≤ M.room) : M'.room = M.room ∧ M'.days = M.days ∧ (ws M' : Int) ≤ M.room := by
  rcases stp_cases hd h with ⟨h0, L, hp, rfl⟩ | ⟨G, rfl, hG⟩ | ⟨_, P, rfl, hP⟩ | ⟨gs, rfl⟩
  · exact ⟨rfl, rfl, ws_ins h0 hp⟩
  · refine ⟨rfl, rfl, ?_⟩
    have : ws { M with es := M.es.map G } ≤ ws M := by
      rw [ws_eq, ws_eq]
      exact ws_map fun y hy => (hG y hy).st
    omega
  · refine ⟨rfl, rfl, ?_⟩
    have : ws { M with es := M.es.filter P } ≤ ws M := by
      rw [ws_eq, ws_eq]
      exact (List.filter_sublist.filter _).length_le
    omega
  · exact ⟨rfl, rfl, hw⟩

/-! ### What is decided stays -/
/-! ### Who holds -/
def HoI (M : Mo) : Prop := ∀ y ∈ M.es, ∃ b, y.ho = auN b
theorem auN_0 : auN 0 = fun _ => 0 := by
  funext j
  unfold auN
  split <;> rfl
theorem ho_step (hd : DisK M.es) (h : stpM k i g a now t M M') (hI : HoI M) : HoI M' := by
  rcases stp_cases hd h with ⟨h0, L, hp, rfl⟩ | ⟨G, rfl, hG⟩ | ⟨_, P, rfl, hP⟩ | ⟨gs, rfl⟩
  · intro y hy
    rcases List.mem_cons.1 (hp.subset hy) with rfl | hy
    · exact ⟨0, auN_0.symm⟩
    · exact hI y hy
  · intro z hz
    obtain ⟨y, hy, rfl⟩ := List.mem_map.1 hz
    rcases hG y hy with ⟨_, e | e | e⟩ | ⟨_, e, _⟩
    · rw [e]; exact hI y hy
    · exact ⟨a, e⟩
    · exact ⟨0, by rw [e, auN_0]⟩
    · exact ⟨0, by rw [e, auN_0]⟩
  · intro y hy
    exact hI y (List.mem_filter.1 hy).1
  · exact hI
end

/-! ### Leases, one after another -/
def A1 (j : Int) : Nat → Int := fun n => if n = 1 then j else 0
theorem A1_ne {j : Int} {f : Nat → Int} (h : f 1 ≠ j) : auI f ≠ auI (A1 j) := fun e => by
  have h1 := congrArg (fun l : List Int => l[1]?) e
  simp [auI, A1] at h1
  exact h h1
structure LeI (i : Int) (now : Int) (g : ByteArray) (M : Mo) (got : List Sb) : Prop where
  ho : ∀ y ∈ M.es, y.ho 1 ≤ i
  bk : ∀ s, got.getLast? = some s → ∀ y ∈ M.es, y.s.g = g → y.s.st = 0 → ¬ cfM s y.s < 0 → inE y now = true
  srt : M.es.Pairwise fun x y => cfM x.s y.s < 0
  dis : DisK M.es
theorem LeI.z {now : Int} {g : ByteArray} {M : Mo} (h : HoI M) (hs : M.es.Pairwise fun x y => cfM x.s y.s < 0) (hd : DisK M.es) : LeI 0 now g M [] := ⟨fun y hy => by
  obtain ⟨b, e⟩ := h y hy
  rw [e]
  show (if 1 = 15 then b.tmod 4 else 0) ≤ _
  rw [if_neg (by decide)]
  exact Int.le_refl _, fun s h => (by cases h), hs, hd⟩
theorem LeI.step {i now : Int} {g : ByteArray} {M : Mo} {got : List Sb} (h : LeI i now g M got) (h0 : xclE M g (A1 (i + 1)) now = 0) :
    (xclS M g (A1 (i + 1)) now).st = 0 ∧ (xclS M g (A1 (i + 1)) now).g = g ∧ (∀ s, got.getLast? = some s → cfM s (xclS M g (A1 (i + 1)) now) < 0) ∧ LeI (i + 1) now g (xclM M g (A1 (i + 1)) now) (got ++ [xclS M g (A1 (i + 1)) now]) ∧
      fdL (xclM M g (A1 (i + 1)) now).es (xclS M g (A1 (i + 1)) now).ky = some ⟨xclS M g (A1 (i + 1)) now, true, A1 (i + 1), now⟩ := by
  have hb : ∀ y ∈ M.es, blk y (auI (A1 (i + 1))) now = inE y now := fun y hy => by
    unfold blk
    rw [show decide (auI y.ho = auI (A1 (i + 1))) = false from decide_eq_false (A1_ne (by have := h.ho y hy; omega))]
    simp
  cases hf : M.es.find? (clP g (auI (A1 (i + 1))) now) with
  | none =>
    unfold xclE at h0
    simp only [hf] at h0
    split at h0
    · exact absurd h0 (by decide)
    · split at h0
      · exact absurd h0 (by decide)
      · exact absurd h0 (by decide)
  | some e =>
    have em := List.mem_of_find?_eq_some hf
    have ep := List.find?_some hf
    have eS : xclS M g (A1 (i + 1)) now = e.s := by unfold xclS; rw [if_pos h0, hf]; rfl
    have eM : xclM M g (A1 (i + 1)) now = M.up e.s.ky (fun y => ⟨y.s, true, A1 (i + 1), now⟩) := by unfold xclM; rw [if_pos h0, eS]
    have ep2 : (e.s.g = g ∧ e.s.st = 0) ∧ inE e now = false := by
      unfold clP at ep
      rw [hb e em] at ep
      simpa using ep
    obtain ⟨_, l1, bs, hes, has⟩ := List.find?_eq_some_iff_append.1 hf
    rw [eS, eM]
    have hky : ∀ y ∈ M.es, y.s.ky = e.s.ky → y = e := fun y hy hk => by
      have e1 := (fd_iff h.dis).2 ⟨hy, hk⟩
      have e2 := (fd_iff h.dis).2 ⟨em, rfl⟩
      rw [e1] at e2
      cases e2; rfl
    have hdis : DisK (M.up e.s.ky (fun y => ⟨y.s, true, A1 (i + 1), now⟩)).es := by
      refine List.pairwise_map.2 (h.dis.imp fun {x y} hxy => ?_)
      have e1 : ∀ z : En, (if z.s.ky = e.s.ky then (⟨z.s, true, A1 (i + 1), now⟩ : En) else z).s = z.s := fun z => by split <;> rfl
      rw [e1, e1]; exact hxy
    refine ⟨ep2.1.2, ep2.1.1, fun s hs => Classical.byContradiction fun hn => ?_, ⟨fun z hz => ?_, fun s hs z hz hg hst hc => ?_, ?_, hdis⟩, ?_⟩
    · have := h.bk s hs e em ep2.1.1 ep2.1.2 hn
      rw [this] at ep2
      exact absurd ep2.2 (by decide)
    · obtain ⟨y, hy, rfl⟩ := List.mem_map.1 hz
      split
      · show (if 1 = 1 then i + 1 else 0) ≤ _
        rw [if_pos rfl]; exact Int.le_refl _
      · have := h.ho y hy
        omega
    · rw [List.getLast?_append] at hs
      simp at hs
      subst hs
      obtain ⟨y, hy, rfl⟩ := List.mem_map.1 hz
      split
      · unfold inE
        simp
      · rename_i hne
        have e1 : (if y.s.ky = e.s.ky then (⟨y.s, true, A1 (i + 1), now⟩ : En) else y) = y := if_neg hne
        rw [e1] at hg hst hc
        have hy2 := hy
        rw [hes] at hy2
        rcases List.mem_append.1 hy2 with hm | hm
        · have := has y hm
          unfold clP at this
          rw [hb y hy] at this
          simp only [hg, hst, decide_true, Bool.true_and, Bool.not_not, beq_self_eq_true] at this
          exact this
        · rcases List.mem_cons.1 hm with rfl | hm
          · exact absurd rfl hne
          · have hs2 := h.srt
            rw [hes, List.pairwise_append] at hs2
            exact absurd ((List.pairwise_cons.1 hs2.2.1).1 y hm) hc
    · refine List.pairwise_map.2 (h.srt.imp fun {x y} hxy => ?_)
      have e1 : ∀ z : En, (if z.s.ky = e.s.ky then (⟨z.s, true, A1 (i + 1), now⟩ : En) else z).s = z.s := fun z => by split <;> rfl
      rw [e1, e1]; exact hxy
    · exact (fd_iff hdis).2 ⟨List.mem_map.2 ⟨e, em, if_pos rfl⟩, rfl⟩

/-! ### Lapses -/
end Go.Proofs.YtfacflbmlfbeeaaGreatDoor

/- Chapter 39, plain: the operations are determined; queues are equal exactly if the models are. No program in sight but in the definitions. -/
namespace Go.Proofs.YtfacflbmlfbeeaaGreatDoor
open Go.RowKit Go.Sort Go.Maps

/-! ### Models that say the same -/
def gpl (y : Gx) : ByteArray × List (Nat → Int) := (y.g, y.x.l)
structure MoE (M N : Mo) : Prop where
  room : N.room = M.room
  days : N.days = M.days
  es : N.es = M.es
  gs : N.gs.map gpl = M.gs.map gpl
theorem MoE.refl (M : Mo) : MoE M M := ⟨rfl, rfl, rfl, rfl⟩
theorem gfind {g : ByteArray} : ∀ {l m : List Gx}, l.map gpl = m.map gpl → ((((l.find? fun y => decide (y.g = g)).map (·.x)).getD mxz)).l = ((((m.find? fun y => decide (y.g = g)).map (·.x)).getD mxz)).l
  | [], [], _ => rfl
  | [], _ :: _, h => by simp at h
  | _ :: _, [], h => by simp at h
  | y :: l, z :: m, h => by
    simp only [List.map_cons, List.cons.injEq] at h
    obtain ⟨h1, h2⟩ := h
    unfold gpl at h1
    obtain ⟨e1, e2⟩ := Prod.mk.inj h1
    rw [List.find?_cons, List.find?_cons, e1]
    cases hd : decide (z.g = g) with
    | true => exact e2
    | false => exact gfind h2
section
variable {M N M' N' : Mo}
theorem MoE.md (h : MoE M N) (g : ByteArray) : (N.md g).l = (M.md g).l := gfind h.gs
theorem MoE.mb (h : MoE M N) (g : ByteArray) (a : Nat → Int) : isMB (N.md g) a = isMB (M.md g) a := by unfold isMB; rw [h.md]
theorem MoE.fd (h : MoE M N) (k : Ky) : N.fd k = M.fd k := by unfold Mo.fd; rw [h.es]
theorem MoE.ls (h : MoE M N) (g : ByteArray) (st : Int) : N.ls g st = M.ls g st := by unfold Mo.ls; rw [h.es]
theorem MoE.sub (h : MoE M N) (id : Nat → Int) (g tx : ByteArray) (now : Int) : xsubE N id g tx now = xsubE M id g tx now := by
  unfold xsubE
  rw [h.md, h.fd, h.ls, h.room]
theorem MoE.cl (h : MoE M N) (g : ByteArray) (a : Nat → Int) (now : Int) : xclE N g a now = xclE M g a now ∧ xclS N g a now = xclS M g a now := by
  have e1 : xclE N g a now = xclE M g a now := by
    unfold xclE
    rw [h.mb, h.es]
  refine ⟨e1, ?_⟩
  unfold xclS
  rw [e1, h.es]
theorem MoE.rl (h : MoE M N) (k : Ky) (a : Nat → Int) (now : Int) : xrlE N k a now = xrlE M k a now := by
  unfold xrlE
  rw [h.fd]
theorem MoE.dc (h : MoE M N) (id : Nat → Int) (g : ByteArray) (a : Nat → Int) (st : Int) (rs : ByteArray) (now : Int) : xdcE N id g a st rs now = xdcE M id g a st rs now := by
  unfold xdcE
  rw [h.fd, h.mb]
theorem MoE.up (h : MoE M N) (k : Ky) (f : En → En) : MoE (M.up k f) (N.up k f) := ⟨h.room, h.days, by unfold Mo.up; rw [h.es], h.gs⟩
end
theorem gset_pl {g : ByteArray} {X Y : MX} (hX : Y.l = X.l) : ∀ {l m : List Gx}, m.map gpl = l.map gpl → (gset m g Y).map gpl = (gset l g X).map gpl
  | [], [], _ => by unfold gset gpl; simp [hX]
  | [], _ :: _, h => by simp at h
  | _ :: _, [], h => by simp at h
  | y :: l, z :: m, h => by
    simp only [List.map_cons, List.cons.injEq] at h
    obtain ⟨h1, h2⟩ := h
    have h1' := h1
    unfold gpl at h1'
    obtain ⟨e1, e2⟩ := Prod.mk.inj h1'
    unfold gset
    rw [e1]
    split
    · simp only [List.map_cons, h2]
      unfold gpl; simp [hX]
    · simp only [List.map_cons, h1, gset_pl hX h2]
theorem sort_uniq {α : Type} {cf : α → α → Int} (hc : ∀ a b, cf a b = - cf b a) {l m : List α} (hp : l.Perm m) (h1 : l.Pairwise fun x y => cf x y < 0) (h2 : m.Pairwise fun x y => cf x y < 0) : l = m :=
  perm_uniq39 (R := fun x y => cf x y < 0) hp h1 h2 fun a _ b _ h3 h4 => by
    have := hc a b
    omega
theorem MoE.step {k i g a now : Int} {t : ByteArray} {M N M' N' : Mo} (h : MoE M N) (h1 : stpM k i g a now t M M') (h2 : stpM k i g a now t N N') (s1 : M'.es.Pairwise fun x y => cfM x.s y.s < 0) (s2 : N'.es.Pairwise fun x y => cfM x.s y.s < 0) : MoE M' N' := by
  unfold stpM at h1 h2
  generalize (k.tmod 8).toNat = j at h1 h2
  match j, h1, h2 with
  | 0, h1, h2 =>
    simp only at h1 h2
    rw [h.sub] at h2
    rcases h1 with ⟨a1, L, b1, rfl⟩ | ⟨a1, rfl⟩ <;> rcases h2 with ⟨a2, L2, b2, rfl⟩ | ⟨a2, rfl⟩
    · refine ⟨h.room, h.days, ?_, h.gs⟩
      rw [h.es] at b2
      exact sort_uniq (cf := fun x y : En => cfM x.s y.s) (fun a b => cfM_ord.anti a.s b.s) (b2.trans b1.symm) s2 s1
    · exact absurd a1 a2
    · exact absurd a2 a1
    · exact h
  | 1, h1, h2 =>
    simp only at h1 h2
    subst h1 h2
    unfold xclM
    rw [(h.cl _ _ _).1, (h.cl _ _ _).2]
    split
    · exact h.up _ _
    · exact h
  | 2, h1, h2 =>
    simp only at h1 h2
    subst h1 h2
    unfold xrlM
    rw [h.rl]
    split
    · exact h.up _ _
    · exact h
  | 3, h1, h2 =>
    simp only at h1 h2
    subst h1 h2
    unfold xdcM
    rw [h.dc]
    split
    · exact h.up _ _
    · exact h
  | 4, h1, h2 =>
    simp only at h1 h2
    subst h1 h2
    unfold xdcM
    rw [h.dc]
    split
    · exact h.up _ _
    · exact h
  | 5, h1, h2 =>
    simp only at h1 h2
    subst h1 h2
    unfold xlpM
    split
    · exact ⟨h.room, h.days, by rw [h.es, h.days], h.gs⟩
    · exact h
  | 6, h1, h2 =>
    simp only at h1 h2
    subst h1 h2
    exact ⟨h.room, h.days, by rw [h.es], h.gs⟩
  | j + 7, h1, h2 =>
    simp only at h1 h2
    rcases h1 with ⟨a1, X, b1, c1, rfl⟩ | ⟨a1, rfl⟩ <;> rcases h2 with ⟨a2, Y, b2, c2, rfl⟩ | ⟨a2, rfl⟩
    · exact ⟨h.room, h.days, h.es, gset_pl (sort_uniq (cf := cfA) cfA_ord.anti (b2.trans b1.symm) c2 c1) h.gs⟩
    · exact absurd a1 a2
    · exact absurd a2 a1
    · exact h

/-! ### The groups' names -/
def NmD (M : Mo) : Prop := M.gs.Pairwise fun x y => x.g ≠ y.g
theorem gset_nm {g : ByteArray} {X : MX} : ∀ {l : List Gx}, (l.Pairwise fun x y => x.g ≠ y.g) → (gset l g X).Pairwise fun x y => x.g ≠ y.g
  | [], _ => by unfold gset; simp
  | y :: l, h => by
    have h1 := List.pairwise_cons.1 h
    unfold gset
    split
    · rename_i e
      exact List.pairwise_cons.2 ⟨fun z hz => by show g ≠ z.g; rw [← e]; exact h1.1 z hz, h1.2⟩
    · rename_i e
      refine List.pairwise_cons.2 ⟨fun z hz => ?_, gset_nm h1.2⟩
      rcases gset_mem hz with rfl | hz
      · exact e
      · exact h1.1 z hz
theorem NmD.step {k i g a now : Int} {t : ByteArray} {M M' : Mo} (h : NmD M) (h1 : stpM k i g a now t M M') : NmD M' := by
  have hup : ∀ (k : Ky) (f : En → En), NmD (M.up k f) := fun _ _ => h
  unfold stpM at h1
  split at h1
  · rcases h1 with ⟨_, L, _, rfl⟩ | ⟨_, rfl⟩ <;> exact h
  · subst h1; unfold xclM; split <;> exact h
  · subst h1; unfold xrlM; split <;> exact h
  · subst h1; unfold xdcM; split <;> exact h
  · subst h1; unfold xdcM; split <;> exact h
  · subst h1; unfold xlpM; split <;> exact h
  · subst h1; exact h
  · rcases h1 with ⟨_, X, _, _, rfl⟩ | ⟨_, rfl⟩
    · exact gset_nm h
    · exact h
/-! ### When the queues are equal -/
/-- Every group that is kept has moderators. -/
def MsN (q : Qu) : Prop := ∀ g x, aget q.ms g = some x → x.l ≠ []
theorem MsN.is {q : Qu} (h : MsN q) (g : ByteArray) : (aget q.ms g).isSome = !decide ((q.md g).l = []) := by
  unfold Qu.md
  cases hg : aget q.ms g with
  | none => rfl
  | some x => simp [h g x hg]
end Go.Proofs.YtfacflbmlfbeeaaGreatDoor

/- Chapter 39: the contracts of the queue's functions, told by the model beside it. Bytes are bytes; lists are not too long. -/
namespace Go.Proofs.YtfacflbmlfbeeaaGreatDoor
open Go.RowKit Go.Sort Go.Maps

/-- What stays true from operation to operation. -/
structure St (r d : Int) (M : Mo) : Prop where
  room : M.room = r
  days : M.days = d
  ws : (ws M : Int) ≤ M.room
  ho : HoI M
theorem St.step {r d k i g a now : Int} {t : ByteArray} {M M' : Mo} (h : St r d M) (hd : DisK M.es) (hs : stpM k i g a now t M M') : St r d M' := by
  obtain ⟨h1, h2, h3⟩ := ws_step hd hs h.ws
  exact ⟨h1.trans h.room, h2.trans h.days, by rw [h1]; exact h3, ho_step hd hs h.ho⟩
section
variable {w0 w : World} {b mb eb m n : Nat} {q : Qu} {M : Mo} {P : Pl}
theorem SW.list (h : SW w0 w b mb eb m q M P) (r : Rq n q M) (hn : n ≤ 10000) (hG : GW w0) (g : ByteArray) (st : Int) :
    Calls Tryz.prog 32 #[.pointer (some ⟨b, 0, none⟩), .string g, .int .i64 st] w fun e w' => (∃ (p : Option Addr) (c : Nat), e = .returned (.slice p (M.ls g st).length c) ∧ w'.ownsRow w.heap.size 48 54 (.slice p (M.ls g st).length c) (M.ls g st).length ((M.ls g st).flatMap sbC)) ∧ K0 w w' :=
  (list_any h.mq r.qo (by have := r.ql; omega) g st (h.gw hG)).mono fun e w' ⟨⟨p, c, l, he, hp, hs, ho⟩, k⟩ => by
    have e1 : l = M.ls g st := r.uniq hp hs
    subst e1
    exact ⟨⟨p, c, he, ho⟩, k⟩
theorem SW.count (h : SW w0 w b mb eb m q M P) (r : Rq n q M) (hn : n ≤ 10000) (hG : GW w0) (g : ByteArray) (st : Int) :
    Calls Tryz.prog 15 #[.pointer (some ⟨b, 0, none⟩), .string g, .int .i64 st] w fun e w' => e = .returned (.int .i64 ((M.ls g st).length : Nat)) ∧ K0 w w' :=
  (count_any h.mq r.qo (by have := r.ql; omega) g st (h.gw hG)).mono fun e w' ⟨he, k⟩ => by
    have e1 : (selE (lsP g st) q.es).length = (M.ls g st).length := (r.sel (lsP g st)).length_eq
    exact ⟨by rw [he, e1], k⟩
theorem SW.get (h : SW w0 w b mb eb m q M P) (r : Rq n q M) (id : Nat → Int) (hid : BY id) (g : ByteArray) (hg : g.size ≤ 1073741824) :
    Calls Tryz.prog 21 #[.pointer (some ⟨b, 0, none⟩), .agg (arrI .u8 id 32 0).toArray, .string g] w fun e w' => e = .returned (.tuple #[sbV ((fdL M.es (idI id, g)).getD enz).s, .bool (fdL M.es (idI id, g)).isSome]) ∧ K0 w w' :=
  (get_any h.mq id hid g hg).mono fun e w' ⟨he, k⟩ => by
    rw [r.fd]
    exact ⟨he, k⟩
end

end Go.Proofs.YtfacflbmlfbeeaaGreatDoor

/- Chapter 39: the contract of the reference's All (code points of a text). Texts that are not too long. -/
namespace Go.Proofs.YtfacflbmlfbeeaaGreatDoor
open Go.RowKit

def i64C (x : Int) : List Value := [.int .i64 x]
theorem i64C_length (x : Int) : (i64C x).length = 1 := rfl
def Apart (a b : Value) : Prop := ∀ k, a.ownBlock = some k → b.ownBlock = some k → False
theorem none_own {n c k : Nat} (h : (Value.slice none n c).ownBlock = some k) : False := by simp [Value.ownBlock] at h
set_option maxRecDepth 100000 in
set_option maxHeartbeats 2000000 in
theorem xall_any (s : ByteArray) (w : World) (hs : s.size ≤ 1000000) : Calls Tryz.prog 58 #[.string s] w fun e w' => (∃ (p q : Option Addr) (n c c' : Nat) (out : List Int) (a er : Int), e = .returned (.tuple #[.slice p out.length c, .slice q n c', .int .i64 a, .int .i64 er]) ∧ RowA i64C 1 w' p out ∧ out.length ≤ s.size ∧ ((er = 0 ∧ rnB s = true ∧ out = rnL s) ∨ (er ≠ 0 ∧ rnB s = false))) ∧ K0 w w' := by
  have hsp := (rn_spec s).1
  generalize rnB s = B at hsp ⊢
  generalize rnL s = LL at hsp ⊢
  refine vc_xall s w _ ?_
  refine ⟨fun vs w' => ∃ (i : Nat) (p q : Option Addr) (n c c' : Nat) (xs : List Value) (out l : List Int), vs = [.int .i64 (i : Int), .slice q n c', .slice p out.length c] ∧ i ≤ s.size ∧ n ≤ i ∧ out.length ≤ i ∧ LL = out ++ l ∧ RN s i l B ∧ w'.ownsRow w.heap.size 3 1 (.slice q n c') n xs ∧ w'.ownsRow w.heap.size 3 1 (.slice p out.length c) out.length (out.flatMap i64C) ∧ Apart (.slice q n c') (.slice p out.length c) ∧ K0 w w',
    fun vs _ => (match vs with | .int _ a :: _ => s.size - a.toNat | _ => 0), ⟨0, none, none, 0, 0, 0, [], [], LL, rfl, by omega, by omega, Nat.le_refl _, rfl, hsp, World.ownsRow_nil _ _ _ _, World.ownsRow_nil _ _ _ _, fun k h _ => none_own h, .refl _ _⟩, ?_⟩
  rintro y q n c' p n1 c w1 ⟨i, p', q', n', cc, cc', xs, out, l, hv, hi, hni, hol, hLL, hR, ho1, ho2, hap, k1⟩
  simp only [List.cons.injEq, Value.int.injEq, Value.slice.injEq, true_and, and_true] at hv
  obtain ⟨rfl, ⟨rfl, rfl, rfl⟩, rfl, rfl, rfl⟩ := hv
  rw [Int.toNat_natCast]
  refine bsp_intro (fun hlt => ?_) (fun hge => ?_)
  rotate_left
  · have hge : s.size ≤ i := by simp at hge; omega
    obtain ⟨e1, e2⟩ := RN.det hR (.done hge)
    exact ⟨⟨p, q, n, c, c', out, 0, 0, rfl, RowA.own ho2 i64C_length (by decide), by omega, .inl ⟨rfl, e2, by rw [hLL, e1, List.append_nil]⟩⟩, k1⟩
  have hlt : i < s.size := by simp at hlt; omega
  refine ⟨⟨by omega, by omega⟩, ⟨(xfirst_any (s.extract i s.size) w1 (by rw [ext_size]; omega) (by rw [ext_size]; omega)).mono fun e w2 ⟨hd, k2⟩ => ?_⟩⟩
  have k02 := k1.trans k2
  have ho2' := owns_kp ho2 k2 (fun _ _ h => h)
  have ho1' := owns_kp ho1 k2 (fun _ _ h => h)
  cases hR with
  | done h => omega
  | bad h hu =>
    rw [hu] at hd
    obtain ⟨er, he0, he⟩ := hd
    refine ⟨_, _, _, he, .of_k0 k2, bsp_intro (fun _ => ⟨⟨p, q, n, c, c', out, _, er, rfl, RowA.own ho2' i64C_length (by decide), by omega, .inr ⟨he0, rfl⟩⟩, k02⟩) (fun h => by exfalso; simp at h; exact he0 h)⟩
  | @step _ r m l' _ h hu hr =>
    rw [hu] at hd
    have hn := u8R_pos hu
    rw [ext_size] at hn
    refine ⟨_, _, _, hd, .of_k0 k2, bsp_intro (fun h => by simp at h) (fun _ n2 W hW => ?_)⟩
    have kW : K0 w2 W := hW.kk rfl
    have hoW := owns_kp ho2' kW (fun _ _ h => h)
    have hqW := owns_kp ho1' kW (fun _ _ h => h)
    refine ⟨w.heap.size, _, hoW, by omega, by omega, Nat.le_trans k02.size kW.size, fun p4 c4 w4 ho4 hg4 ha4 => ?_⟩
    have kg4 := kp_grown hg4
    have k04 : K0 w w4 := (k02.trans kW).fresh kg4 (fun j hj e => by have := own_ge hoW e; omega)
    have hq4 := owns_kp hqW kg4 (fun k hk e => hap k hk e)
    have hap4 : Apart (.slice q n c') (.slice p4 (out.length + 1) c4) := fun k hk e => by
      rcases ha4.own with h | h
      · rw [h] at e; exact hap k hk e
      · rw [h] at e
        cases e
        exact Nat.lt_irrefl _ (own_lt hqW hk)
    refine ⟨.of_kp kg4 (fun z hz => by cases hz), fun n3 W5 hW5 => ?_⟩
    have k5 : K0 w4 W5 := hW5.kk rfl
    have hq5 := owns_kp hq4 k5 (fun _ _ h => h)
    have ho5 := owns_kp ho4 k5 (fun _ _ h => h)
    refine ⟨w.heap.size, _, hq5, by omega, by omega, Nat.le_trans k04.size k5.size, fun p6 c6 w6 ho6 hg6 ha6 => ?_⟩
    have kg6 := kp_grown hg6
    have k06 : K0 w w6 := (k04.trans k5).fresh kg6 (fun j hj e => by have := own_ge hq5 e; omega)
    have hp6 := owns_kp ho5 kg6 (fun k hk e => hap4 k e hk)
    rw [wr64 (by omega) (by omega)]
    have e1 : (out ++ [r]).length = out.length + 1 := by simp
    have e2 : (out ++ [r]).flatMap i64C = out.flatMap i64C ++ [.int .i64 r] := by rw [List.flatMap_append]; rfl
    refine ⟨.of_kp kg6 (fun z hz => by cases hz), ⟨i + m, p4, p6, n + 1, c4, c6, _, out ++ [r], l', by rw [← Int.natCast_add, e1], by omega, by omega, by omega, by rw [hLL, List.append_assoc]; rfl, hr, ho6, by rw [e1, e2]; exact hp6, fun k hk e => ?_, k06⟩, by simp only [← Int.natCast_add, Int.toNat_natCast]; omega⟩
    rw [e1] at e
    rcases ha6.own with h | h
    · rw [h] at hk; exact hap4 k hk e
    · rw [h] at hk
      cases hk
      exact Nat.lt_irrefl _ (own_lt ho5 e)

end Go.Proofs.YtfacflbmlfbeeaaGreatDoor

/- Chapter 39: the contract of the reference's decide. Bytes are bytes; lists are not too long. -/
namespace Go.Proofs.YtfacflbmlfbeeaaGreatDoor
open Go.RowKit Go.Sort Go.Maps

theorem prt_no {s : ByteArray} {out : List Int} {er : Int} (h : (er = 0 ∧ rnB s = true ∧ out = rnL s) ∨ (er ≠ 0 ∧ rnB s = false)) {r : Int} (hr : r ∈ out) (hc : ctlB r = true) : prtB s = false := by
  unfold prtB
  rcases h with ⟨_, h1, h2⟩ | ⟨_, h1⟩
  · subst h2
    rw [h1, List.any_eq_true.2 ⟨r, hr, hc⟩]; rfl
  · rw [h1]; rfl
theorem prt_yes {s : ByteArray} {out : List Int} (h1 : rnB s = true) (h2 : out = rnL s) (hc : ∀ r ∈ out, ctlB r = false) : prtB s = true := by
  unfold prtB
  subst h2
  have : (rnL s).any ctlB = false := by
    rw [List.any_eq_false]
    intro r hr h
    rw [hc r hr] at h; cases h
  rw [h1, this]; rfl
set_option maxHeartbeats 4000000 in
set_option maxRecDepth 100000 in
theorem xdecide_any {w : World} {B m : Nat} {M : Mo} {P : Pl} (h : MoR w B m M P) (ho : M.OK) (f : Nat → Int) (hf : BY f) (g : ByteArray) (a : Nat → Int) (ha : BY a) (st : Int) (rs : ByteArray) (hrs : rs.size ≤ 1000000) (now : Int) :
    Calls Tryz.prog 27 #[.pointer (some ⟨m, 0, none⟩), .agg (arrI .u8 f 32 0).toArray, .string g, .agg (arrI .u8 a 16 0).toArray, .int .i64 st, .string rs, .int .i64 now] w fun e w' => e = .returned (.int .i64 (xdcE M f g a st rs now)) ∧ MoR w' B m (xdcM M f g a st rs now) P ∧ Kp (MF w B) w w' := by
  refine vc_xdecide m f g a st rs now w _ (fun n n1 W hW => ?_)
  have kW : K0 w W := hW.kk rfl
  have hel := ho.el
  have hgl := ho.gl
  have hfin : ∀ (E : Int), xdcE M f g a st rs now = E → E ≠ 0 → ∀ w', K0 w w' → Ending.returned (.int .i64 E) = Ending.returned (.int .i64 (xdcE M f g a st rs now)) ∧ MoR w' B m (xdcM M f g a st rs now) P ∧ Kp (MF w B) w w' := fun E hE h0 w' k => by
    have hM : xdcM M f g a st rs now = M := by unfold xdcM; rw [hE, if_neg h0]
    rw [hE, hM]
    exact ⟨rfl, h.k0 k, .mf0 k⟩
  refine ⟨(xmin_any now W).mono fun e w1 ⟨he, k1⟩ => ⟨_, he, .of_k0 k1, bsp_intro (fun h1 => ?_) (fun h1 => ?_)⟩⟩
  · exact hfin 2 (by unfold xdcE; rw [if_pos (minB_ft h1)]) (by decide) _ (kW.trans k1)
  have h1 := minB_ff h1
  have hn1 : ¬ minB now = false := by rw [h1]; decide
  have k01 := kW.trans k1
  have hE0 : (¬ (st = 2 ∧ 200 < rs.size)) → (¬ (st = 2 ∧ prtB rs = false)) → xdcE M f g a st rs now = if isMB (M.md g) a = false then 20 else match M.fd (idI f, g) with
    | none => 8
    | some y => if y.s.st ≠ 0 then 10 else if blk y (auI a) now = true then 25 else 0 := fun e1 e2 => by
    unfold xdcE
    rw [if_neg hn1, if_neg e1, if_neg e2]
    rfl
  refine bsp_intro (fun h2 => bsp_intro (fun h3 => ?a) (fun h3 => ?b)) (fun h2 => ?c)
  case a =>
    have h2 : st = 2 := by simpa using h2
    have h3 : 200 < rs.size := by simp at h3; omega
    exact hfin 5 (by unfold xdcE; rw [if_neg hn1, if_pos ⟨h2, h3⟩]) (by decide) _ k01
  case' b =>
    have h2 : st = 2 := by simpa using h2
    have h3 : ¬ 200 < rs.size := by simp at h3; omega
    have h6 : prtB rs = false → xdcE M f g a st rs now = 6 := fun hp => by unfold xdcE; rw [if_neg hn1, if_neg (fun e => h3 e.2), if_pos ⟨h2, hp⟩]
    refine ⟨(xall_any rs w1 hrs).mono fun e w2 ⟨⟨p, q, n2, c, c', out, a2, er, he, hR, hol, hrn⟩, k2⟩ => ⟨_, _, _, _, _, _, _, _, he, .of_k0 k2, ?_⟩⟩
    refine ⟨fun vs w' => ∃ i : Nat, vs = [.int .i64 (i : Int)] ∧ i ≤ out.length ∧ (∀ j r, j < i → out[j]? = some r → ctlB r = false) ∧ K0 w2 w', fun vs _ => (match vs with | .int _ a :: _ => out.length - a.toNat | _ => 0), ⟨0, rfl, by omega, fun j y h => by omega, .refl _ _⟩, ?_⟩
    rintro x wt ⟨i, hv, hi, hno, k3⟩ hL
    simp only [List.cons.injEq, Value.int.injEq, true_and, and_true] at hv
    subst hv
    have k23 := k2.trans k3
    have kt := k01.trans k23
    refine bsp_intro (fun hlt => ?_) (fun hge => bsp_intro (fun h4 => ?_) (fun h4 => ?_))
    · have hlt : i < out.length := by simp at hlt; omega
      obtain ⟨y, b, o, hy, hp, hat⟩ := (hR.k0 k3).get hlt
      have hc : wt.cell? ⟨b, o + i, none⟩ = some (.int .i64 y) := by
        have := hat.cell (j := 0) rfl
        rw [Nat.mul_one] at this
        exact this
      rw [Int.toNat_natCast]
      refine nn_is hp ⟨⟨by omega, by omega⟩, y, hc, ⟨(xctl_any y wt).mono fun e w4 ⟨he, k4⟩ => ⟨_, he, .of_k0 k4, bsp_intro (fun h5 => ?_) (fun h5 => ?_)⟩⟩⟩
      · exact hfin 6 (h6 (prt_no hrn (List.mem_of_getElem? hy) h5)) (by decide) _ (kt.trans k4)
      · rw [inc64 (by omega)]
        refine ⟨⟨i + 1, rfl, hlt, fun j z hj hz => ?_, k3.trans k4⟩, by simp only [Int.toNat_natCast]; omega⟩
        by_cases e : j = i
        · subst e; rw [hy] at hz; cases hz; exact h5
        · exact hno j z (by omega) hz
    · have h4 : er ≠ 0 := by simpa using h4
      refine hfin 6 (h6 ?_) (by decide) _ kt
      rcases hrn with ⟨h5, _⟩ | ⟨_, h5⟩
      · exact absurd h5 h4
      · unfold prtB; rw [h5]; rfl
    have h4 : er = 0 := by simpa using h4
    have hi2 : i = out.length := by simp at hge; omega
    subst hi2
    have hprt : prtB rs = true := by
      rcases hrn with ⟨_, h5, h6⟩ | ⟨h5, _⟩
      · exact prt_yes h5 h6 fun r hr => by
          obtain ⟨j, hj⟩ := List.getElem?_of_mem hr
          exact hno j r (List.getElem?_eq_some_iff.1 hj).1 hj
      · exact absurd h4 h5
    have hE0 := hE0 (fun e => h3 e.2) (fun e => by rw [hprt] at e; cases e.2)
  case' c =>
    have h2 : st ≠ 2 := by simpa using h2
    have hE0 := hE0 (fun e => h2 e.1) (fun e => h2 e.1)
    have kt := k01
    revert kt
    generalize w1 = wt
    intro kt
  all_goals
    refine ⟨(xis_any (h.k0 kt) (by omega) g a ha (ho.md g)).mono fun e w4 ⟨he, k4⟩ => ⟨_, he, .of_k0 k4, bsp_intro (fun h4 => ?_) (fun h4 => ?_)⟩⟩
    · have h4 : isMB (M.md g) a = false := by simpa using h4
      exact hfin 20 (by rw [hE0, if_pos h4]) (by decide) _ (kt.trans k4)
    have h4 : isMB (M.md g) a = true := by simpa using h4
    rw [if_neg (by rw [h4]; decide)] at hE0
    have k04 := kt.trans k4
    refine ⟨(xfind39_any (h.k0 k04) (by omega) f hf (fun x hx => (ho.es x hx).1.s.id) g).mono fun e w5 ⟨hfd, k5⟩ => ?_⟩
    have k05 := k04.trans k5
    have h5 := h.k0 k05
    rcases hfd with ⟨he, hno⟩ | ⟨i, y, he, hy, hky⟩
    · exact ⟨_, he, .of_k0 k5, bsp_intro (fun _ => hfin 8 (by rw [hE0]; unfold Mo.fd; rw [no_fd hno]) (by decide) _ k05) (fun h => absurd h (by decide))⟩
    have hi : i < M.es.length := (List.getElem?_eq_some_iff.1 hy).1
    obtain ⟨y2, b, o, hy2, hp, hat⟩ := h5.rowE.get hi
    rw [hy] at hy2
    cases hy2
    have hfd : M.fd (idI f, g) = some y := dis_fd ho.dis hy hky
    rw [hfd] at hE0
    simp only at hE0
    have hyo := (ho.es y (List.mem_of_getElem? hy)).1
    refine ⟨_, he, .of_k0 k5, bsp_intro (fun hneg => ?_) (fun _ => ⟨_, _, _, h5.cE, nn_is hp ⟨⟨by omega, by omega⟩, y.s.st, by rw [Int.toNat_natCast]; exact hat.cell (j := 35) rfl, ?_⟩⟩)⟩
    · exfalso; simp at hneg; omega
    rw [Int.toNat_natCast]
    refine bsp_intro (fun h6 => ?_) (fun h6 => ⟨_, _, _, h5.cE, nn_is hp ⟨⟨by omega, by omega⟩, y.s.id, y.s.g, y.s.tx, y.s.r, y.s.st, y.s.mo, y.s.de, y.s.rs, y.le, y.ho, y.si, hat, ?_⟩⟩)
    · have h6 : y.s.st ≠ 0 := by simpa using h6
      exact hfin 10 (by rw [hE0, if_pos h6]) (by decide) _ k05
    have h6 : y.s.st = 0 := by simpa using h6
    rw [if_neg (by omega)] at hE0
    refine ⟨(xholder_any y now hyo.si w5).mono fun e w6 ⟨he, k6⟩ => ⟨_, _, he, .of_k0 k6, fun n6 => ⟨_, gimp_intro fun _ => auEq (hdA_by hyo now) ha, ?_⟩⟩⟩
    rw [hdW_blk y a now h6]
    have k06 := k05.trans k6
    refine bsp_intro (fun h7 W7 hW7 => ?_) (fun h7 W7 hW7 => ?_)
    · exact hfin 25 (by rw [hE0, if_pos h7]) (by decide) _ (hW7.k0 k06)
    have k7 : K0 w W7 := hW7.k0 k06
    rw [if_neg (by rw [h7]; decide)] at hE0
    have f0 := hW7.cells 0 rfl
    have f1 := hW7.cells 1 rfl
    have f2 := hW7.cells 2 rfl
    have hM : xdcM M f g a st rs now = { M with es := M.es.set i (plainE (finS39 y.s a now st rs)) } := by
      unfold xdcM
      rw [hE0, if_pos rfl]
      unfold Mo.up
      rw [← dis_set (fun y => plainE (finS39 y.s a now st rs)) ho.dis hy hky]
    refine ⟨(xend_any (h.k0 k7) hy st a rs now).mono fun e w8 ⟨he, h8, k8⟩ => ⟨he, .of_kp k8 (fun z hz => ?_), by rw [hE0], by rw [hM]; exact h8, (Kp.mf0 k7).mft k8⟩⟩
    simp only [List.mem_cons, List.not_mem_nil, or_false] at hz
    rcases hz with rfl | rfl | rfl
    · exact mf_no f0 rfl
    · exact mf_no f1 rfl
    · exact mf_no f2 rfl

end Go.Proofs.YtfacflbmlfbeeaaGreatDoor

/- Chapter 39: the contract of the reference's submit. Printed by mkxsub39.py. Bytes are bytes; lists are not too long. -/
namespace Go.Proofs.YtfacflbmlfbeeaaGreatDoor
open Go.RowKit Go.Sort Go.Maps

theorem enC_one (x : En) : ∀ v ∈ enC x, v.oneCell' = true := fun v hv => by
  unfold enC at hv
  rcases List.mem_append.1 hv with h | h
  · exact arr_one x.s.id 32 v h
  rcases List.mem_append.1 h with h | h
  · simp only [List.mem_cons, List.not_mem_nil, or_false] at h
    rcases h with h | h | h | h <;> (subst h; rfl)
  rcases List.mem_append.1 h with h | h
  · exact arr_one x.s.mo 16 v h
  rcases List.mem_append.1 h with h | h
  · simp only [List.mem_cons, List.not_mem_nil, or_false] at h
    rcases h with h | h | h <;> (subst h; rfl)
  rcases List.mem_append.1 h with h | h
  · exact arr_one x.ho 16 v h
  · simp only [List.mem_cons, List.not_mem_nil, or_false] at h
    subst h; rfl
theorem enCs_one (l : List En) : ∀ u ∈ l.flatMap enC, u.oneCell' = true := fun u hu => by
  obtain ⟨z, _, hz⟩ := List.mem_flatMap.1 hu
  exact enC_one z u hz
theorem enC_flat (l : List En) : (l.flatMap enC).length = l.length * 72 := len_flat enC 72 l (fun _ _ => rfl)
theorem src_en {w : World} {n : Nat} {x : En} {t : TypeId} {f : Nat × Nat} (h : w.heap[n]? = some (.cells (enC x).toArray t f)) : SrcP w (some ⟨n, 0, none⟩) (enC x) := src_block h (enC_one x)
set_option maxRecDepth 100000 in
set_option maxHeartbeats 16000000 in
theorem xsubmit_any {w : World} {B m : Nat} {M : Mo} {P : Pl} (h : MoR w B m M P) (ho : M.OK) (hs : M.es.Pairwise fun x y => cfM x.s y.s < 0) (f : Nat → Int) (hf : BY f) (g tx : ByteArray) (now : Int) :
    Calls Tryz.prog 26 #[.pointer (some ⟨m, 0, none⟩), .agg (arrI .u8 f 32 0).toArray, .string g, .string tx, .int .i64 now] w fun e w' => e = .returned (.int .i64 (xsubE M f g tx now)) ∧ ((xsubE M f g tx now ≠ 0 ∧ MoR w' B m M P) ∨ (xsubE M f g tx now = 0 ∧ ∃ (L : List En) (P' : Pl), L.Perm (newE f g tx now :: M.es) ∧ (L.Pairwise fun x y => cfM x.s y.s < 0) ∧ MoR w' B m { M with es := L } P')) ∧ Kp (MF w B) w w' := by
  refine vc_xsubmit m f g tx now w _ (fun n W hW => ?_)
  have kW : K0 w W := hW.kk rfl
  clear hW
  have hel := ho.el
  have hgl := ho.gl
  have hfin : ∀ (E : Int), xsubE M f g tx now = E → E ≠ 0 → ∀ w', K0 w w' → Ending.returned (.int .i64 E) = Ending.returned (.int .i64 (xsubE M f g tx now)) ∧ ((xsubE M f g tx now ≠ 0 ∧ MoR w' B m M P) ∨ (xsubE M f g tx now = 0 ∧ ∃ (L : List En) (P' : Pl), L.Perm (newE f g tx now :: M.es) ∧ (L.Pairwise fun x y => cfM x.s y.s < 0) ∧ MoR w' B m { M with es := L } P')) ∧ Kp (MF w B) w w' := fun E hE hn w' k => by
    rw [hE]
    exact ⟨rfl, .inl ⟨hn, h.k0 k⟩, .mf0 k⟩
  refine ⟨(xmin_any now W).mono fun e w1 ⟨he, k1⟩ => ⟨_, he, .of_k0 k1, bsp_intro (fun h1 => ?_) (fun h1 => ?_)⟩⟩
  · exact hfin 2 (by unfold xsubE; rw [if_pos (minB_ft h1)]) (by decide) _ (kW.trans k1)
  have h1 := minB_ff h1
  have hn1 : ¬ minB now = false := by rw [h1]; decide
  have k01 := kW.trans k1
  refine ⟨(xgcheck_any g w1).mono fun e w2 ⟨he, k2⟩ => ⟨_, he, .of_k0 k2, bsp_intro (fun h2 => ?_) (fun h2 => bsp_intro (fun h3 => ?_) (fun h3 => ?_))⟩⟩
  · have h2 : gnE g ≠ 0 := by simpa using h2
    exact hfin (gnE g) (by unfold xsubE; rw [if_neg hn1, if_pos h2]) h2 _ (k01.trans k2)
  · have h2 : gnE g = 0 := by simpa using h2
    have h3 : 65536 < tx.size := by simp at h3; omega
    exact hfin 5 (by unfold xsubE; rw [if_neg hn1, if_neg (by omega), if_pos h3]) (by decide) _ (k01.trans k2)
  have h2 : gnE g = 0 := by simpa using h2
  have h3 : ¬ 65536 < tx.size := by simp at h3; omega
  have hgs := gnE_sz39 h2
  have k02 := k01.trans k2
  refine ⟨(xmods_any (h.k0 k02) (by omega) g).mono fun e w3 ⟨he, k3⟩ => ⟨_, _, _, he, .of_k0 k3, bsp_intro (fun h4 => ?_) (fun h4 => ?_)⟩⟩
  · have h4 : (M.md g).l.length = 0 := by simp at h4; simp [h4]
    exact hfin 33 (by unfold xsubE; rw [if_neg hn1, if_neg (by omega), if_neg h3, if_pos h4]) (by decide) _ (k02.trans k3)
  have h4 : ¬ (M.md g).l.length = 0 := by intro e; rw [e] at h4; exact absurd h4 (by decide)
  have k03 := k02.trans k3
  refine ⟨(xfind39_any (h.k0 k03) (by omega) f hf (fun x hx => (ho.es x hx).1.s.id) g).mono fun e w4 ⟨hfd, k4⟩ => ?_⟩
  have k04 := k03.trans k4
  rcases hfd with ⟨he, hno⟩ | ⟨i, y, he, hy, hky⟩
  rotate_left
  · refine ⟨_, he, .of_k0 k4, bsp_intro (fun _ => hfin 7 ?_ (by decide) _ k04) (fun h => ?_)⟩
    · have hfd : M.fd (idI f, g) = some y := dis_fd ho.dis hy hky
      unfold xsubE
      rw [if_neg hn1, if_neg (by omega), if_neg h3, if_neg h4, hfd]
      rfl
    · have := of_decide_eq_false h
      exfalso; omega
  have hfd : M.fd (idI f, g) = none := no_fd hno
  refine ⟨_, he, .of_k0 k4, bsp_intro (fun h => absurd h (by decide)) (fun _ W5 hW5 => ?_)⟩
  have k5 : K0 w W5 := hW5.k0 k04
  have h5 := h.k0 k5
  refine ⟨fun wx => K0 W5 wx, .refl _ _, M.room, fun wx k => (h5.k0 k).cR, ⟨(xlist_any h5 (by omega) ⟨#[]⟩ 0).mono fun e w6 ⟨⟨p6, c6, he, _⟩, k6⟩ => ⟨_, _, _, he, k6, .of_k0 k6, bsp_intro (fun h7 => ?_) (fun h7 n3 W7 hW7 => ?_)⟩⟩⟩
  · have h7 : M.room ≤ ((M.ls ⟨#[]⟩ 0).length : Nat) := by simpa using h7
    exact hfin 9 (by unfold xsubE; rw [if_neg hn1, if_neg (by omega), if_neg h3, if_neg h4, if_neg (by rw [hfd]; decide), if_pos h7]) (by decide) _ (k5.trans k6)
  have h7 : ¬ M.room ≤ ((M.ls ⟨#[]⟩ 0).length : Nat) := by simpa using h7
  have h0 : xsubE M f g tx now = 0 := by unfold xsubE; rw [if_neg hn1, if_neg (by omega), if_neg h3, if_neg h4, if_neg (by rw [hfd]; decide), if_neg h7]
  have k7 : K0 w W7 := hW7.k0 (k5.trans k6)
  clear hfin
  have h77 := h.k0 k7
  have hesid : ∀ y ∈ M.es, BY y.s.id := fun y hy => (ho.es y hy).1.s.id
  refine ⟨fun vs w' => ∃ a : Nat, vs = [.int .i64 (a : Int)] ∧ a ≤ M.es.length ∧ (∀ (j : Nat) (y : En), j < a → M.es[j]? = some y → cfM y.s (newE f g tx now).s < 0) ∧ K0 W7 w', fun vs _ => (match vs with | .int _ a :: _ => M.es.length - a.toNat | _ => 0), ⟨0, rfl, by omega, (fun j y h => by omega), .refl _ _⟩, ?_⟩
  rintro xa w8 ⟨a, hv, hal, hlow, k8⟩ hL8
  simp only [List.cons.injEq, Value.int.injEq, true_and, and_true] at hv
  subst hv
  clear hW5 hW7 hL8
  have h8 := h77.k0 k8
  rw [Int.toNat_natCast]
  refine ⟨_, _, _, fun Wx hx => (h8.k0 (hx.kk rfl)).cE, ?_⟩
  rcases Nat.lt_or_ge a M.es.length with hlt | hge
  · have hd : decide ((a : Int) < (M.es.length : Int)) = true := by simp; omega
    obtain ⟨y, b, o, hy, hpy, haty⟩ := h8.rowE.get hlt
    have hym := List.mem_of_getElem? hy
    simp only [hd]
    refine ⟨_, _, _, gimp_intro fun _ Wx hx => (h8.k0 (hx.kk rfl)).cE, nn_is hpy ⟨gimp_intro fun _ => ⟨by omega, by omega⟩, y.s.id, y.s.g, y.s.tx, y.s.r, y.s.st, y.s.mo, y.s.de, y.s.rs, gimp_intro fun _ Wx hx => sb_left _ (haty.k0 (hx.kk rfl)), fun W9 hW9 => bsp_intro (fun _ => ?_) (fun h => by cases h)⟩⟩
    have k9 : K0 w8 W9 := hW9.kk rfl
    clear hW9
    refine ⟨(xbefore_any y.s (newE f g tx now).s (hesid y hym) hf (by have := (ho.es y hym).2; omega) (by show g.size ≤ _; omega) W9).mono fun e w10 ⟨he, k10⟩ => ⟨_, he, .of_k0 k10, bsp_intro (fun hc => ?_) (fun hc Wr hWr => ?_)⟩⟩
    · have hc : cfM y.s (newE f g tx now).s < 0 := by simpa using hc
      rw [inc64 (by omega)]
      refine ⟨⟨a + 1, rfl, hlt, fun j z hj hz => ?_, k8.trans (k9.trans k10)⟩, by simp only [Int.toNat_natCast]; omega⟩
      by_cases e : j = a
      · subst e; rw [hy] at hz; cases hz; exact hc
      · exact hlow j z (by omega) hz
    · have hc : ¬ cfM y.s (newE f g tx now).s < 0 := by simpa using hc
      have k11 : K0 W7 Wr := (k8.trans (k9.trans k10)).trans (hWr.kk rfl : K0 w10 Wr)
      have hsrt : (insL M.es a (newE f g tx now)).Pairwise fun x y => cfM x.s y.s < 0 := ins_sort cfE_ord hs hlow (fun z hz => by
        rw [hy] at hz
        cases hz
        have e1 := cfM_ord.anti (newE f g tx now).s y.s
        have e2 : cfM y.s (newE f g tx now).s ≠ 0 := fun e => hno y hym (ky_eq (hesid y hym) hf e)
        omega)

      have kr : K0 w Wr := k7.trans k11
      have hMr := h.k0 kr
      have hew := hMr.ew
      have hc0 := hWr.cells 0 rfl
      have hc1 := hWr.cells 1 rfl
      have hle := own_le hew
      have hBW : B ≤ Wr.heap.size := Nat.le_of_lt (Nat.lt_of_le_of_lt h.ge (block_lt hMr.st))
      have hT : ((M.es.flatMap enC).take (a * 72)).length = a * 72 := by rw [List.length_take, enC_flat]; omega
      have hD : ((M.es.flatMap enC).drop (a * 72)).length = (M.es.length - a) * 72 := by rw [List.length_drop, enC_flat]; omega
      have hst : ∀ {wx : World}, K0 Wr wx → SrcP wx P.ep ((M.es.flatMap enC).take (a * 72)) := fun k => src_take (owns_kp hew k (fun _ _ h => h)) (enCs_one M.es) _
      have hsd : ∀ {wx : World}, K0 Wr wx → SrcP wx (slA P.ep P.ec a 72) ((M.es.flatMap enC).drop (a * 72)) := fun k => src_drop (owns_kp hew k (fun _ _ h => h)) (enCs_one M.es) hal
      have fin : ∀ (p' : Option Addr) (c' : Nat) (w9 : World), w9.ownsRow Wr.heap.size 91 72 (.slice p' (0 + a + 1 + (M.es.length - a)) c') (0 + a + 1 + (M.es.length - a)) ((([] ++ (M.es.flatMap enC).take (a * 72)) ++ enC (newE f g tx now)) ++ (M.es.flatMap enC).drop (a * 72)) → K0 Wr w9 → ((∃ u : Value, w9.cell? ⟨m, 0 + 3, none⟩ = some u) ∧ w9.frozen? ⟨m, 0 + 3, none⟩ = false) ∧ ∀ w1 : World, PutB w9 m (0 + 3) [.slice p' (0 + a + 1 + (M.es.length - a)) c'] w1 → KeptL [n3, n] Wr w1 ∧ Ending.returned (.int .i64 0) = Ending.returned (.int .i64 (xsubE M f g tx now)) ∧ ((xsubE M f g tx now ≠ 0 ∧ MoR w1 B m M P) ∨ (xsubE M f g tx now = 0 ∧ ∃ (L : List En) (P' : Pl), L.Perm (newE f g tx now :: M.es) ∧ (L.Pairwise fun x y => cfM x.s y.s < 0) ∧ MoR w1 B m { M with es := L } P')) ∧ Kp (MF w B) w w1 := fun p' c' w9 o9 k9 => by
        have h9 := hMr.k0 k9
        refine ⟨cell_wr h9.st (by show 0 + 3 < 4; omega), fun w1 hput => ?_⟩
        rw [List.nil_append, insL_flat enC 72 M.es a (newE f g tx now) enC_length] at o9
        have o9' := own_base o9 hBW
        obtain ⟨hM1, kk1⟩ := h9.newe (L := insL M.es a (newE f g tx now)) (p := p') (c := c') (by rw [insL_len hal]; exact o9') (by rw [insL_len hal]; exact hput)
        refine ⟨.of_kp ((Kp.mf0 k9).mft kk1) (fun z hz => ?_), by rw [h0], .inr ⟨h0, insL M.es a (newE f g tx now), _, insL_perm _ _ _, hsrt, hM1⟩, (Kp.mf0 (kr.trans k9)).mft kk1⟩
        simp only [List.mem_cons, List.not_mem_nil, or_false] at hz
        rcases hz with rfl | rfl
        · exact mf_no hc0 rfl
        · exact mf_no hc1 rfl

      refine ⟨fun wx => K0 Wr wx, .refl _ _, _, _, _, fun wx k => (hMr.k0 k).cE, ⟨by omega, by omega⟩, f, g, tx, now, 0, fun _ => 0, 0, ⟨#[]⟩, fun wx k => AtL_block (k.blk hc0 (fun h => h)) rfl, _, _, _, fun wx k => (hMr.k0 k).cE, ⟨by omega, by omega⟩, ?_, ?_⟩
      · exact fun n6 w6 h6 => ⟨h6.kp _,
          app_own (w0 := Wr) (E := 152) (m := a) (own_none h6.ge h6.block) (h6.kp _) (by omega) (by omega) hT (hst (h6.kp _)) (fun p7 c7 w7 o7 k7 _ => ⟨k7, fun n8 w8 h8 => ⟨k7.trans (h8.kp _),
            app_own (E := 152) (m := 1) (owns_kp o7 (h8.kp (fun _ => False)) (fun _ _ h => h)) (k7.trans (h8.kp _)) (by omega) (by omega) rfl (src_en (x := newE f g tx now) h8.block) (fun p9 c9 w9 o9 k9 _ => ⟨k9,
              app_own (E := 152) (m := M.es.length - a) o9 k9 (by omega) (by omega) hD (hsd k9) (fun pa ca wa oa ka _ => fin pa ca wa oa ka)⟩)⟩⟩),
          fun n7 w7 h7 => ⟨(h6.kp _).trans (h7.kp _), app_own (w0 := Wr) (E := 152) (m := a) (own_none h6.ge ((h7.kp (fun _ => False)).blk h6.block (fun h => h))) ((h6.kp _).trans (h7.kp _)) (by omega) (by omega) hT (hst ((h6.kp _).trans (h7.kp _))) (fun p8 c8 w8 o8 k8 g8 => ⟨k8,
            app_own (E := 152) (m := 1) o8 k8 (by omega) (by omega) rfl (src_en (x := newE f g tx now) (g8.blk h7.block (fun e => by have := own_n39 e; have := h6.size; have := h7.ge; omega))) (fun p9 c9 w9 o9 k9 _ => ⟨k9,
              app_own (E := 152) (m := M.es.length - a) o9 k9 (by omega) (by omega) hD (hsd k9) (fun pa ca wa oa ka _ => fin pa ca wa oa ka)⟩)⟩)⟩⟩
      · exact fun n6 w6 h6 => ⟨h6.kp _, fun n7 w7 h7 => ⟨(h6.kp _).trans (h7.kp _),
          app_own (w0 := Wr) (E := 152) (m := a) (own_none (Nat.le_trans (h6.kp (fun _ => False)).size h7.ge) h7.block) ((h6.kp _).trans (h7.kp _)) (by omega) (by omega) hT (hst ((h6.kp _).trans (h7.kp _))) (fun p8 c8 w8 o8 k8 g8 => ⟨k8,
            app_own (E := 152) (m := 1) o8 k8 (by omega) (by omega) rfl (src_en (x := newE f g tx now) (g8.blk ((h7.kp (fun _ => False)).blk h6.block (fun h => h)) (fun e => by have := own_n39 e; have := h6.size; have := h7.ge; omega))) (fun p9 c9 w9 o9 k9 _ => ⟨k9,
              app_own (E := 152) (m := M.es.length - a) o9 k9 (by omega) (by omega) hD (hsd k9) (fun pa ca wa oa ka _ => fin pa ca wa oa ka)⟩)⟩)⟩⟩

  · have hd : decide ((a : Int) < (M.es.length : Int)) = false := by simp; omega
    simp only [hd]
    refine ⟨none, 0, 0, gimp_neg rfl, nn_neg rfl fun _ _ => ⟨gimp_neg rfl, fun _ => 0, ⟨#[]⟩, ⟨#[]⟩, 0, 0, fun _ => 0, 0, ⟨#[]⟩, gimp_neg rfl, fun W9 hW9 => bsp_intro (fun h => by cases h) (fun _ => ⟨.refl _ _, fun Wr hWr => ?_⟩)⟩⟩
    · have k11 : K0 W7 Wr := (k8.trans (hW9.kk rfl : K0 w8 W9)).trans (hWr.kk rfl : K0 W9 Wr)
      clear hW9
      have hsrt : (insL M.es a (newE f g tx now)).Pairwise fun x y => cfM x.s y.s < 0 := ins_sort cfE_ord hs hlow (fun z hz => by
        rw [List.getElem?_eq_none (by omega)] at hz
        cases hz)

      have kr : K0 w Wr := k7.trans k11
      have hMr := h.k0 kr
      have hew := hMr.ew
      have hc0 := hWr.cells 0 rfl
      have hc1 := hWr.cells 1 rfl
      have hle := own_le hew
      have hBW : B ≤ Wr.heap.size := Nat.le_of_lt (Nat.lt_of_le_of_lt h.ge (block_lt hMr.st))
      have hT : ((M.es.flatMap enC).take (a * 72)).length = a * 72 := by rw [List.length_take, enC_flat]; omega
      have hD : ((M.es.flatMap enC).drop (a * 72)).length = (M.es.length - a) * 72 := by rw [List.length_drop, enC_flat]; omega
      have hst : ∀ {wx : World}, K0 Wr wx → SrcP wx P.ep ((M.es.flatMap enC).take (a * 72)) := fun k => src_take (owns_kp hew k (fun _ _ h => h)) (enCs_one M.es) _
      have hsd : ∀ {wx : World}, K0 Wr wx → SrcP wx (slA P.ep P.ec a 72) ((M.es.flatMap enC).drop (a * 72)) := fun k => src_drop (owns_kp hew k (fun _ _ h => h)) (enCs_one M.es) hal
      have fin : ∀ (p' : Option Addr) (c' : Nat) (w9 : World), w9.ownsRow Wr.heap.size 91 72 (.slice p' (0 + a + 1 + (M.es.length - a)) c') (0 + a + 1 + (M.es.length - a)) ((([] ++ (M.es.flatMap enC).take (a * 72)) ++ enC (newE f g tx now)) ++ (M.es.flatMap enC).drop (a * 72)) → K0 Wr w9 → ((∃ u : Value, w9.cell? ⟨m, 0 + 3, none⟩ = some u) ∧ w9.frozen? ⟨m, 0 + 3, none⟩ = false) ∧ ∀ w1 : World, PutB w9 m (0 + 3) [.slice p' (0 + a + 1 + (M.es.length - a)) c'] w1 → KeptL [n3, n] Wr w1 ∧ Ending.returned (.int .i64 0) = Ending.returned (.int .i64 (xsubE M f g tx now)) ∧ ((xsubE M f g tx now ≠ 0 ∧ MoR w1 B m M P) ∨ (xsubE M f g tx now = 0 ∧ ∃ (L : List En) (P' : Pl), L.Perm (newE f g tx now :: M.es) ∧ (L.Pairwise fun x y => cfM x.s y.s < 0) ∧ MoR w1 B m { M with es := L } P')) ∧ Kp (MF w B) w w1 := fun p' c' w9 o9 k9 => by
        have h9 := hMr.k0 k9
        refine ⟨cell_wr h9.st (by show 0 + 3 < 4; omega), fun w1 hput => ?_⟩
        rw [List.nil_append, insL_flat enC 72 M.es a (newE f g tx now) enC_length] at o9
        have o9' := own_base o9 hBW
        obtain ⟨hM1, kk1⟩ := h9.newe (L := insL M.es a (newE f g tx now)) (p := p') (c := c') (by rw [insL_len hal]; exact o9') (by rw [insL_len hal]; exact hput)
        refine ⟨.of_kp ((Kp.mf0 k9).mft kk1) (fun z hz => ?_), by rw [h0], .inr ⟨h0, insL M.es a (newE f g tx now), _, insL_perm _ _ _, hsrt, hM1⟩, (Kp.mf0 (kr.trans k9)).mft kk1⟩
        simp only [List.mem_cons, List.not_mem_nil, or_false] at hz
        rcases hz with rfl | rfl
        · exact mf_no hc0 rfl
        · exact mf_no hc1 rfl

      refine ⟨fun wx => K0 Wr wx, .refl _ _, _, _, _, fun wx k => (hMr.k0 k).cE, ⟨by omega, by omega⟩, f, g, tx, now, 0, fun _ => 0, 0, ⟨#[]⟩, fun wx k => AtL_block (k.blk hc0 (fun h => h)) rfl, _, _, _, fun wx k => (hMr.k0 k).cE, ⟨by omega, by omega⟩, ?_, ?_⟩
      · exact fun n6 w6 h6 => ⟨h6.kp _,
          app_own (w0 := Wr) (E := 152) (m := a) (own_none h6.ge h6.block) (h6.kp _) (by omega) (by omega) hT (hst (h6.kp _)) (fun p7 c7 w7 o7 k7 _ => ⟨k7, fun n8 w8 h8 => ⟨k7.trans (h8.kp _),
            app_own (E := 152) (m := 1) (owns_kp o7 (h8.kp (fun _ => False)) (fun _ _ h => h)) (k7.trans (h8.kp _)) (by omega) (by omega) rfl (src_en (x := newE f g tx now) h8.block) (fun p9 c9 w9 o9 k9 _ => ⟨k9,
              app_own (E := 152) (m := M.es.length - a) o9 k9 (by omega) (by omega) hD (hsd k9) (fun pa ca wa oa ka _ => fin pa ca wa oa ka)⟩)⟩⟩),
          fun n7 w7 h7 => ⟨(h6.kp _).trans (h7.kp _), app_own (w0 := Wr) (E := 152) (m := a) (own_none h6.ge ((h7.kp (fun _ => False)).blk h6.block (fun h => h))) ((h6.kp _).trans (h7.kp _)) (by omega) (by omega) hT (hst ((h6.kp _).trans (h7.kp _))) (fun p8 c8 w8 o8 k8 g8 => ⟨k8,
            app_own (E := 152) (m := 1) o8 k8 (by omega) (by omega) rfl (src_en (x := newE f g tx now) (g8.blk h7.block (fun e => by have := own_n39 e; have := h6.size; have := h7.ge; omega))) (fun p9 c9 w9 o9 k9 _ => ⟨k9,
              app_own (E := 152) (m := M.es.length - a) o9 k9 (by omega) (by omega) hD (hsd k9) (fun pa ca wa oa ka _ => fin pa ca wa oa ka)⟩)⟩)⟩⟩
      · exact fun n6 w6 h6 => ⟨h6.kp _, fun n7 w7 h7 => ⟨(h6.kp _).trans (h7.kp _),
          app_own (w0 := Wr) (E := 152) (m := a) (own_none (Nat.le_trans (h6.kp (fun _ => False)).size h7.ge) h7.block) ((h6.kp _).trans (h7.kp _)) (by omega) (by omega) hT (hst ((h6.kp _).trans (h7.kp _))) (fun p8 c8 w8 o8 k8 g8 => ⟨k8,
            app_own (E := 152) (m := 1) o8 k8 (by omega) (by omega) rfl (src_en (x := newE f g tx now) (g8.blk ((h7.kp (fun _ => False)).blk h6.block (fun h => h)) (fun e => by have := own_n39 e; have := h6.size; have := h7.ge; omega))) (fun p9 c9 w9 o9 k9 _ => ⟨k9,
              app_own (E := 152) (m := M.es.length - a) o9 k9 (by omega) (by omega) hD (hsd k9) (fun pa ca wa oa ka _ => fin pa ca wa oa ka)⟩)⟩)⟩⟩

end Go.Proofs.YtfacflbmlfbeeaaGreatDoor

/- The formulas of functions by the symbolic evaluator, and that each gives the call's contract. Written by a program (gen.py). No condition. -/
namespace Go.Proofs.YtfacflbmlfbeeaaGreatDoor
set_option maxRecDepth 100000
set_option linter.unusedVariables false

def VC_lstart (room : Int) (days : Int) (w : World) (R : Ending -> World -> Prop) : Prop := CallsS Tryz.prog 13 #[.int .i64 room, .int .i64 days] w fun (e : Ending) (w' : World) => ∃ (x : Option Addr) (x_1 : Int), e = .returned (.tuple #[.pointer x, .int .i64 x_1]) /\ KeptL [] w w' /\ ∀ (n : Nat) (W : World), Loc w.heap.size [Blk.mk n 57 [Value.int .i64 room, .int .i64 days, .slice none 0 0, .slice none 0 0] 2] w' W -> CallsS Tryz.prog 20 #[.int .u8 2] W fun (e : Ending) (w' : World) => ∃ (f : Nat -> Int), e = .returned (.agg (arrI .u8 f 16 0).toArray) /\ KeptL [n] W w' /\ CallsS Tryz.prog 20 #[.int .u8 0] w' fun (e : Ending) (w'_1 : World) => ∃ (f_1 : Nat -> Int), e = .returned (.agg (arrI .u8 f_1 16 0).toArray) /\ KeptL [n] w' w'_1 /\ CallsS Tryz.prog 20 #[.int .u8 1] w'_1 fun (e : Ending) (w' : World) => ∃ (f_2 : Nat -> Int), e = .returned (.agg (arrI .u8 f_2 16 0).toArray) /\
 KeptL [n] w'_1 w' /\ ∀ (n_1 : Nat) (W : World), Loc w.heap.size [Blk.mk n_1 45 (arrI .u8 f 16 0 ++ (arrI .u8 f_1 16 0 ++ (arrI .u8 f_2 16 0))) 2, Blk.mk n 57 [Value.int .i64 room, .int .i64 days, .slice none 0 0, .slice none 0 0] 0] w' W -> CallsS Tryz.prog 38 #[.pointer x, .string (ByteArray.mk #[103]), .slice (some (Addr.mk n_1 0 none)) 3 3] W fun (e : Ending) (w' : World) => ∃ (x_2 : Int), e = .returned (.int .i64 x_2) /\ KeptL [n] W w' /\ CallsS Tryz.prog 20 #[.int .u8 2] w' fun (e : Ending) (w'_2 : World) => ∃ (f : Nat -> Int), e = .returned (.agg (arrI .u8 f 16 0).toArray) /\ KeptL [n] w' w'_2 /\ CallsS Tryz.prog 20 #[.int .u8 0] w'_2 fun (e : Ending) (w' : World) => ∃ (f_3 : Nat -> Int), e = .returned (.agg (arrI .u8 f_3 16 0).toArray) /\ KeptL [n] w'_2 w' /\ CallsS Tryz.prog 20 #[.int .u8 1] w' fun (e : Ending) (w'_3 : World) => ∃ (f_4 : Nat -> Int), e = .returned (.agg
 (arrI .u8 f_4 16 0).toArray) /\ KeptL [n] w' w'_3 /\ ∀ (n_2 : Nat) (W : World), Loc w.heap.size [Blk.mk n_2 45 (arrI .u8 f 16 0 ++ (arrI .u8 f_3 16 0 ++ (arrI .u8 f_4 16 0))) 2, Blk.mk n 57 [Value.int .i64 room, .int .i64 days, .slice none 0 0, .slice none 0 0] 0] w'_3 W -> CallsS Tryz.prog 25 #[.pointer (some (Addr.mk n 0 none)), .string (ByteArray.mk #[103]), .slice (some (Addr.mk n_2 0 none)) 3 3] W fun (e : Ending) (w' : World) => ∃ (x_3 : Int), e = .returned (.int .i64 x_3) /\ KeptL [] W w' /\ CallsS Tryz.prog 20 #[.int .u8 1] w' fun (e : Ending) (w'_4 : World) => ∃ (f : Nat -> Int), e = .returned (.agg (arrI .u8 f 16 0).toArray) /\ KeptL [] w' w'_4 /\ ∀ (n_3 : Nat) (W : World), Loc w.heap.size [Blk.mk n_3 45 (arrI .u8 f 16 0) 2] w'_4 W -> CallsS Tryz.prog 38 #[.pointer x, .string (ByteArray.mk #[97, 46, 98]), .slice (some (Addr.mk n_3 0 none)) 1 1]
 W fun (e : Ending) (w' : World) => ∃ (x_4 : Int), e = .returned (.int .i64 x_4) /\ KeptL [] W w' /\ CallsS Tryz.prog 20 #[.int .u8 1] w' fun (e : Ending) (w'_5 : World) => ∃ (f : Nat -> Int), e = .returned (.agg (arrI .u8 f 16 0).toArray) /\ KeptL [] w' w'_5 /\ ∀ (n_4 : Nat) (W : World), Loc w.heap.size [Blk.mk n_4 45 (arrI .u8 f 16 0) 2] w'_5 W -> CallsS Tryz.prog 25 #[.pointer (some (Addr.mk n 0 none)), .string (ByteArray.mk #[97, 46, 98]), .slice (some (Addr.mk n_4 0 none)) 1 1] W fun (e : Ending) (w' : World) => ∃ (x_5 : Int), e = .returned (.int .i64 x_5) /\ KeptL [] W w' /\ R (.returned (.tuple #[.pointer x, .pointer (some (Addr.mk n 0 none))])) w'
theorem vc_lstart (room : Int) (days : Int) (w : World) (R : Ending -> World -> Prop) (h : VC_lstart room days w R) : Calls Tryz.prog 17 ([Value.int .i64 room, .int .i64 days] : List Value).toArray w R :=
 calls_of_exec2' (loops := []) (tails := []) (joins := []) (boxes := []) (rngs := []) (c := Tryz.f17.body.getD .skip) pur1_ok Tryz.func17 (by kernel_rfl) (by kernel_rfl) h

end Go.Proofs.YtfacflbmlfbeeaaGreatDoor

/- Chapter 39: the contract of the law's start: a queue and its model, with moderators of two groups. The library's variable MaxLen holds a number. -/
namespace Go.Proofs.YtfacflbmlfbeeaaGreatDoor
open Go.RowKit Go.Sort Go.Maps

def kAB : ByteArray := ⟨#[97, 46, 98]⟩
theorem au3 : ∀ z ∈ [auN 2, auN 0, auN 1], BY z ∧ NZ 16 z := fun z hz => by
  simp only [List.mem_cons, List.not_mem_nil, or_false] at hz
  rcases hz with rfl | rfl | rfl <;> exact auN_ok (by decide)
theorem au1 : ∀ z ∈ [auN 1], BY z ∧ NZ 16 z := fun z hz => au3 z (by
  simp only [List.mem_cons, List.not_mem_nil, or_false] at hz
  subst hz; simp)
theorem set3 : setE kG [auN 2, auN 0, auN 1] = 0 := by
  unfold setE
  rw [if_neg (by rw [k_gn]; decide), if_neg (by decide), if_pos]
  decide +kernel
theorem set1 : setE kAB [auN 1] = 0 := by
  unfold setE
  rw [if_neg (by decide +kernel), if_neg (by decide), if_pos]
  decide +kernel
theorem srt3 : ([auN 0, auN 1, auN 2] : List (Nat → Int)).Pairwise fun x y => cfA x y < 0 := by
  have h1 : cfA (auN 0) (auN 1) < 0 := by decide +kernel
  have h2 : cfA (auN 0) (auN 2) < 0 := by decide +kernel
  have h3 : cfA (auN 1) (auN 2) < 0 := by decide +kernel
  simp [h1, h2, h3]
/-- What start makes. -/
structure M0 (room days : Int) (M : Mo) : Prop where
  room : M.room = room
  days : M.days = days
  es : M.es = []
  gs : M.gs.map gpl = [(kG, [auN 0, auN 1, auN 2]), (kAB, [auN 1])]
theorem M0.moe {r d : Int} {M N : Mo} (h : M0 r d M) (k : M0 r d N) : MoE M N := ⟨by rw [k.room, h.room], by rw [k.days, h.days], by rw [k.es, h.es], by rw [k.gs, h.gs]⟩
theorem M0.nm {r d : Int} {M : Mo} (h : M0 r d M) : NmD M := by
  have e : M.gs.Pairwise fun x y => (gpl x).1 ≠ (gpl y).1 := by
    rw [← List.pairwise_map (f := gpl) (R := fun a b => a.1 ≠ b.1), h.gs]
    have : ¬ kG = kAB := by decide
    simp [this]
  exact e
theorem M0.st {r d : Int} {M : Mo} (h : M0 r d M) (hr : 0 ≤ r) : St r d M := ⟨h.room, h.days, by rw [ws_eq, h.es, h.room]; exact hr, fun y hy => by rw [h.es] at hy; cases hy⟩
theorem M0.md {r d : Int} {M : Mo} (h : M0 r d M) : (M.md kG).l = [auN 0, auN 1, auN 2] := by
  have e : M.gs.map gpl = [(⟨kG, ⟨[auN 0, auN 1, auN 2], none, 0⟩⟩ : Gx), ⟨kAB, ⟨[auN 1], none, 0⟩⟩].map gpl := by rw [h.gs]; rfl
  have := gfind (g := kG) e
  unfold Mo.md
  rw [this]
  rw [List.find?_cons, show decide (kG = kG) = true from rfl]
  rfl
theorem setR_msn {q q' : Qu} {g : ByteArray} {l : List (Nat → Int)} (h : setR q g l q') (hm : MsN q) : MsN q' := by
  rcases h with ⟨_, rfl⟩ | ⟨_, _, rfl⟩ | ⟨_, hne, x, hp, _, _, rfl⟩
  · exact hm
  · intro c y hy
    have hy : aget (adel q.ms g) c = some y := hy
    rw [aget_adel] at hy
    split at hy
    · cases hy
    · exact hm c y hy
  · intro c y hy
    have hy : aget (aset q.ms g x) c = some y := hy
    rw [aget_aset] at hy
    split at hy
    · cases hy
      intro e
      rw [e] at hp
      exact hne (List.nil_perm.1 hp)
    · exact hm c y hy
theorem row3 {W : World} {n : Nat} {a b c : Nat → Int} {f : Nat × Nat} (h : W.heap[n]? = some (.cells (arrI .u8 a 16 0 ++ (arrI .u8 b 16 0 ++ arrI .u8 c 16 0)).toArray 45 f)) : RowA auC 16 W (some ⟨n, 0, none⟩) [a, b, c] := fun k y hy => by
  match k, hy with
  | 0, hy => cases hy; exact ⟨n, 0, rfl, AtL_block h rfl⟩
  | 1, hy => cases hy; exact ⟨n, 0, rfl, AtL_block h rfl⟩
  | 2, hy => cases hy; exact ⟨n, 0, rfl, AtL_block h rfl⟩
  | k + 3, hy => cases hy
theorem row1 {W : World} {n : Nat} {a : Nat → Int} {f : Nat × Nat} (h : W.heap[n]? = some (.cells (arrI .u8 a 16 0).toArray 45 f)) : RowA auC 16 W (some ⟨n, 0, none⟩) [a] := fun k y hy => by
  match k, hy with
  | 0, hy => cases hy; exact ⟨n, 0, rfl, AtL_block h rfl⟩
  | k + 1, hy => cases hy
theorem gw_lt {w : World} (hG : GW w) : 0 < w.heap.size := by
  obtain ⟨m, hm⟩ := hG
  unfold World.cell? at hm
  rcases Nat.lt_or_ge 0 w.heap.size with h | h
  · exact h
  · simp only [Array.getElem?_eq_none h] at hm
    cases hm
set_option maxRecDepth 100000 in
set_option maxHeartbeats 4000000 in
theorem lstart_any (room days : Int) (hnew : newR room days = false) (w : World) (hG : GW w) :
    Calls Tryz.prog 17 #[.int .i64 room, .int .i64 days] w fun e w' => ∃ (b mb eb m : Nat) (q : Qu) (M : Mo) (P : Pl), e = .returned (.tuple #[.pointer (some ⟨b, 0, none⟩), .pointer (some ⟨m, 0, none⟩)]) ∧ SW w w' b mb eb m q M P ∧ Rq 2 q M ∧ M0 room days M ∧ MsN q := by
  refine vc_lstart room days w _ ⟨(mnew_any room days w (gw_lt hG)).mono fun e w1 hN => ?_⟩
  rcases hN with ⟨h, _⟩ | ⟨_, b, mb, eb, he, hq, k1, gb, gm, ge⟩
  · rw [hnew] at h; cases h
  refine ⟨_, _, he, .of_k0 k1, fun m W hW => ?_⟩
  have kW : K0 w1 W := hW.kk rfl
  have k01 := k1.trans kW
  have gm0 : w1.heap.size ≤ m := hW.fresh 0 rfl rfl
  have s1 := k1.size
  have hM : MoR W w.heap.size m ⟨room, days, [], []⟩ ⟨none, 0, none, 0⟩ := ⟨hW.cells 0 rfl, by omega, World.ownsRow_nil _ _ _ _, World.ownsRow_nil _ _ _ _, fun y hy => by cases hy⟩
  have h0 : SW w W b mb eb m ⟨room, days, 0, [], []⟩ ⟨room, days, [], []⟩ ⟨none, 0, none, 0⟩ := ⟨hq.k0 kW, (fun g x hx => by cases hx), hM, k01, gb, gm, ge⟩
  have r0 := Rq.new room days hnew
  have n0 : MsN ⟨room, days, 0, [], []⟩ := fun g x hx => by cases hx
  clear hW hM
  refine ⟨(lauthor_any 2 W).mono fun e w2 ⟨he, k2⟩ => ⟨_, he, .of_k0 k2, ⟨(lauthor_any 0 w2).mono fun e w3 ⟨he, k3⟩ => ⟨_, he, .of_k0 k3, ⟨(lauthor_any 1 w3).mono fun e w4 ⟨he, k4⟩ => ⟨_, he, .of_k0 k4, fun n1 W5 hW5 => ?_⟩⟩⟩⟩⟩⟩
  have h5 := h0.k0 (((k2.trans k3).trans k4).trans (hW5.kk rfl))
  have c5 := hW5.cells 0 rfl
  clear hW5
  refine ⟨(setModsQ_any h5.mq h5.qs kG [auN 2, auN 0, auN 1] (some ⟨n1, 0, none⟩) 3 (row3 c5) (fun g o e => by cases e; exact block_lt c5) (fun z hz => (au3 z hz).1) (h5.gw hG)).mono fun e w6 ⟨he, ⟨q6, hs6, hq6, hQ6⟩, k6⟩ => ⟨_, he, h5.qk k6 (fun z hz => ?_), ?_⟩⟩
  · rcases List.mem_singleton.1 hz with rfl
    exact ⟨_, _, _, h5.mr.st, rfl⟩
  have h6 := h5.qopS hq6 hQ6 k6
  refine ⟨(lauthor_any 2 w6).mono fun e w7 ⟨he, k7⟩ => ⟨_, he, .of_k0 k7, ⟨(lauthor_any 0 w7).mono fun e w8 ⟨he, k8⟩ => ⟨_, he, .of_k0 k8, ⟨(lauthor_any 1 w8).mono fun e w9 ⟨he, k9⟩ => ⟨_, he, .of_k0 k9, fun n2 W10 hW10 => ?_⟩⟩⟩⟩⟩⟩
  have h10 := h6.k0 (((k7.trans k8).trans k9).trans (hW10.kk rfl))
  have c10 := hW10.cells 0 rfl
  clear hW10
  refine ⟨(xset_any h10.mr (by show (0 : Nat) ≤ _; omega) kG [auN 2, auN 0, auN 1] (some ⟨n2, 0, none⟩) 3 (row3 c10) (fun z hz => (au3 z hz).1)).mono fun e w11 ⟨he, hx, k11⟩ => ⟨_, he, .of_kp k11 (fun z hz => by cases hz), ?_⟩⟩
  rcases hx with ⟨hne, _⟩ | ⟨_, X, P11, hp11, hs11, hM11⟩
  · exact absurd set3 hne
  have h11 := h10.mop hM11 k11
  have r11 := r0.setr au3 hs6 set3 hp11 hs11
  have n11 := setR_msn hs6 n0
  refine ⟨(lauthor_any 1 w11).mono fun e w12 ⟨he, k12⟩ => ⟨_, he, .of_k0 k12, fun n3 W13 hW13 => ?_⟩⟩
  have h13 := h11.k0 (k12.trans (hW13.kk rfl))
  have c13 := hW13.cells 0 rfl
  clear hW13
  refine ⟨(setModsQ_any h13.mq h13.qs kAB [auN 1] (some ⟨n3, 0, none⟩) 1 (row1 c13) (fun g o e => by cases e; exact block_lt c13) (fun z hz => (au1 z hz).1) (h13.gw hG)).mono fun e w14 ⟨he, ⟨q14, hs14, hq14, hQ14⟩, k14⟩ => ⟨_, he, .of_kp k14 (fun z hz => by cases hz), ?_⟩⟩
  have h14 := h13.qopS hq14 hQ14 k14
  refine ⟨(lauthor_any 1 w14).mono fun e w15 ⟨he, k15⟩ => ⟨_, he, .of_k0 k15, fun n4 W16 hW16 => ?_⟩⟩
  have h16 := h14.k0 (k15.trans (hW16.kk rfl))
  have c16 := hW16.cells 0 rfl
  clear hW16
  refine ⟨(xset_any h16.mr (by have := r11.gl; show (gset [] kG X).length ≤ 1000000; have : (gset [] kG X).length ≤ 0 + 1 := this; omega) kAB [auN 1] (some ⟨n4, 0, none⟩) 1 (row1 c16) (fun z hz => (au1 z hz).1)).mono fun e w17 ⟨he, hx, k17⟩ => ⟨_, he, .of_kp k17 (fun z hz => by cases hz), ?_⟩⟩
  rcases hx with ⟨hne, _⟩ | ⟨_, Z, P17, hp17, hs17, hM17⟩
  · exact absurd set1 hne
  have h17 := h16.mop hM17 k17
  have r17 := r11.setr au1 hs14 set1 hp17 hs17
  have hX : X.l = [auN 0, auN 1, auN 2] := sort_uniq (cf := cfA) cfA_ord.anti (hp11.trans (List.Perm.swap _ _ _ |>.trans (List.Perm.cons _ (List.Perm.swap _ _ _)))) hs11 srt3
  have hZ : Z.l = [auN 1] := List.perm_singleton.1 hp17
  refine ⟨b, mb, eb, m, q14, _, P17, rfl, h17, r17, ⟨rfl, rfl, rfl, ?_⟩, setR_msn hs14 n11⟩
  show (gset (gset [] kG X) kAB Z).map gpl = _
  have hne : ¬ kG = kAB := by decide
  simp only [gset, hne, if_false, List.map_cons, List.map_nil, gpl, hX, hZ]

end Go.Proofs.YtfacflbmlfbeeaaGreatDoor
