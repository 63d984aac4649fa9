/- The formulas of functions by the symbolic evaluator, and that each gives the call's contract. Written by a program (gen.py). No condition. -/
import Derived.Test.YtfacflbmlfbeeaaGreatDoorProg
import Derived.Test.YtfacflbmlfbeeaaGreatDoorZ02
import Derived.Test.YtfacflbmlfbeeaaGreatDoorZ05
import Derived.Test.YtfacflbmlfbeeaaGreatDoorZ04
import Derived.KernelRfl
import Derived.Test.YtfacflbmlfbeeaaGreatDoorZ09
namespace Go.Proofs.YtfacflbmlfbeeaaGreatDoor
set_option maxRecDepth 100000
set_option linter.unusedVariables false

def VC_lknown (w : World) (R : Ending → World → Prop) : Prop :=
 CallsS Tryz.prog 13 #[Value.int IntKind.i64 5, Value.int IntKind.i64 14] w fun (e : Ending) (w' : World) =>
 ∃ (x : Option Addr),
 ∃ (x_1 : Int),
 e = Ending.returned (Value.tuple #[Value.pointer x, Value.int IntKind.i64 x_1]) ∧
 KeptL [] w w' ∧
 bsp (x_1 != 0 || x.isNone) (R (Ending.returned (Value.bool false)) w')
 (∀ (n n_1 n_2 n_3 n_4 : Nat) (W : World),
 Loc w.heap.size
 [Blk.mk n_4 45
 [Value.int IntKind.u8 2, Value.int IntKind.u8 0, Value.int IntKind.u8 0, Value.int IntKind.u8 0,
 Value.int IntKind.u8 0, Value.int IntKind.u8 0, Value.int IntKind.u8 0, Value.int IntKind.u8 0,
 Value.int IntKind.u8 0, Value.int IntKind.u8 0, Value.int IntKind.u8 0, Value.int IntKind.u8 0,
 Value.int IntKind.u8 0, Value.int IntKind.u8 0, Value.int IntKind.u8 0, Value.int IntKind.u8 0,
 Value.int IntKind.u8 1, Value.int IntKind.u8 0, Value.int IntKind.u8 0, Value.int IntKind.u8 0,
 Value.int IntKind.u8 0, Value.int IntKind.u8 0, Value.int IntKind.u8 0, Value.int IntKind.u8 0,
 Value.int IntKind.u8 0, Value.int IntKind.u8 0, Value.int IntKind.u8 0, Value.int IntKind.u8 0,
 Value.int IntKind.u8 0, Value.int IntKind.u8 0, Value.int IntKind.u8 0, Value.int IntKind.u8 0]
 2,
 Blk.mk n_3 32
 [Value.int IntKind.u8 3, Value.int IntKind.u8 0, Value.int IntKind.u8 0, Value.int IntKind.u8 0,
 Value.int IntKind.u8 0, Value.int IntKind.u8 0, Value.int IntKind.u8 0, Value.int IntKind.u8 0,
 Value.int IntKind.u8 0, Value.int IntKind.u8 0, Value.int IntKind.u8 0, Value.int IntKind.u8 0,
 Value.int IntKind.u8 0, Value.int IntKind.u8 0, Value.int IntKind.u8 0, Value.int IntKind.u8 0,
 Value.int IntKind.u8 0, Value.int IntKind.u8 0, Value.int IntKind.u8 0, Value.int IntKind.u8 0,
 Value.int IntKind.u8 0, Value.int IntKind.u8 0, Value.int IntKind.u8 0, Value.int IntKind.u8 0,
 Value.int IntKind.u8 0, Value.int IntKind.u8 0, Value.int IntKind.u8 0, Value.int IntKind.u8 0,
 Value.int IntKind.u8 0, Value.int IntKind.u8 0, Value.int IntKind.u8 0, Value.int IntKind.u8 0]
 (wrM 2),
 Blk.mk n_2 32
 [Value.int IntKind.u8 7, Value.int IntKind.u8 0, Value.int IntKind.u8 0, Value.int IntKind.u8 0,
 Value.int IntKind.u8 0, Value.int IntKind.u8 0, Value.int IntKind.u8 0, Value.int IntKind.u8 0,
 Value.int IntKind.u8 0, Value.int IntKind.u8 0, Value.int IntKind.u8 0, Value.int IntKind.u8 0,
 Value.int IntKind.u8 0, Value.int IntKind.u8 0, Value.int IntKind.u8 0, Value.int IntKind.u8 0,
 Value.int IntKind.u8 0, Value.int IntKind.u8 0, Value.int IntKind.u8 0, Value.int IntKind.u8 0,
 Value.int IntKind.u8 0, Value.int IntKind.u8 0, Value.int IntKind.u8 0, Value.int IntKind.u8 0,
 Value.int IntKind.u8 0, Value.int IntKind.u8 0, Value.int IntKind.u8 0, Value.int IntKind.u8 0,
 Value.int IntKind.u8 0, Value.int IntKind.u8 0, Value.int IntKind.u8 0, Value.int IntKind.u8 0]
 (wrM 2),
 Blk.mk n_1 45
 [Value.int IntKind.u8 2, Value.int IntKind.u8 0, Value.int IntKind.u8 0, Value.int IntKind.u8 0,
 Value.int IntKind.u8 0, Value.int IntKind.u8 0, Value.int IntKind.u8 0, Value.int IntKind.u8 0,
 Value.int IntKind.u8 0, Value.int IntKind.u8 0, Value.int IntKind.u8 0, Value.int IntKind.u8 0,
 Value.int IntKind.u8 0, Value.int IntKind.u8 0, Value.int IntKind.u8 0, Value.int IntKind.u8 0]
 (wrM 2),
 Blk.mk n 45
 [Value.int IntKind.u8 1, Value.int IntKind.u8 0, Value.int IntKind.u8 0, Value.int IntKind.u8 0,
 Value.int IntKind.u8 0, Value.int IntKind.u8 0, Value.int IntKind.u8 0, Value.int IntKind.u8 0,
 Value.int IntKind.u8 0, Value.int IntKind.u8 0, Value.int IntKind.u8 0, Value.int IntKind.u8 0,
 Value.int IntKind.u8 0, Value.int IntKind.u8 0, Value.int IntKind.u8 0, Value.int IntKind.u8 0]
 (wrM 2)]
 w' W →
 CallsS Tryz.prog 38
 #[Value.pointer x, Value.string (ByteArray.mk #[103]), Value.slice (some (Addr.mk n_4 0 none)) 2 2] W
 fun (e : Ending) (w' : World) =>
 ∃ (x_2 : Int),
 e = Ending.returned (Value.int IntKind.i64 x_2) ∧
 KeptL [n_3, n_2, n_1, n] W w' ∧
 CallsS Tryz.prog 18
 #[Value.pointer x,
 Value.agg
 #[Value.int IntKind.u8 7, Value.int IntKind.u8 0, Value.int IntKind.u8 0, Value.int IntKind.u8 0,
 Value.int IntKind.u8 0, Value.int IntKind.u8 0, Value.int IntKind.u8 0, Value.int IntKind.u8 0,
 Value.int IntKind.u8 0, Value.int IntKind.u8 0, Value.int IntKind.u8 0, Value.int IntKind.u8 0,
 Value.int IntKind.u8 0, Value.int IntKind.u8 0, Value.int IntKind.u8 0, Value.int IntKind.u8 0,
 Value.int IntKind.u8 0, Value.int IntKind.u8 0, Value.int IntKind.u8 0, Value.int IntKind.u8 0,
 Value.int IntKind.u8 0, Value.int IntKind.u8 0, Value.int IntKind.u8 0, Value.int IntKind.u8 0,
 Value.int IntKind.u8 0, Value.int IntKind.u8 0, Value.int IntKind.u8 0, Value.int IntKind.u8 0,
 Value.int IntKind.u8 0, Value.int IntKind.u8 0, Value.int IntKind.u8 0, Value.int IntKind.u8 0],
 Value.string (ByteArray.mk #[103]),
 Value.string (ByteArray.mk #[116, 101, 120, 116, 32, 111, 102, 32, 120]), Value.int IntKind.i64 10]
 w' fun (e : Ending) (w'_1 : World) =>
 ∃ (x_3 : Int),
 e = Ending.returned (Value.int IntKind.i64 x_3) ∧
 KeptL [n_3, n_2, n_1, n] w' w'_1 ∧
 CallsS Tryz.prog 18
 #[Value.pointer x,
 Value.agg
 #[Value.int IntKind.u8 3, Value.int IntKind.u8 0, Value.int IntKind.u8 0, Value.int IntKind.u8 0,
 Value.int IntKind.u8 0, Value.int IntKind.u8 0, Value.int IntKind.u8 0, Value.int IntKind.u8 0,
 Value.int IntKind.u8 0, Value.int IntKind.u8 0, Value.int IntKind.u8 0, Value.int IntKind.u8 0,
 Value.int IntKind.u8 0, Value.int IntKind.u8 0, Value.int IntKind.u8 0, Value.int IntKind.u8 0,
 Value.int IntKind.u8 0, Value.int IntKind.u8 0, Value.int IntKind.u8 0, Value.int IntKind.u8 0,
 Value.int IntKind.u8 0, Value.int IntKind.u8 0, Value.int IntKind.u8 0, Value.int IntKind.u8 0,
 Value.int IntKind.u8 0, Value.int IntKind.u8 0, Value.int IntKind.u8 0, Value.int IntKind.u8 0,
 Value.int IntKind.u8 0, Value.int IntKind.u8 0, Value.int IntKind.u8 0, Value.int IntKind.u8 0],
 Value.string (ByteArray.mk #[103]),
 Value.string (ByteArray.mk #[116, 101, 120, 116, 32, 111, 102, 32, 121]), Value.int IntKind.i64 5]
 w'_1 fun (e : Ending) (w' : World) =>
 ∃ (x_4 : Int),
 e = Ending.returned (Value.int IntKind.i64 x_4) ∧
 KeptL [n_3, n_2, n_1, n] w'_1 w' ∧
 CallsS Tryz.prog 39
 #[Value.pointer x, Value.string (ByteArray.mk #[103]),
 Value.agg
 #[Value.int IntKind.u8 1, Value.int IntKind.u8 0, Value.int IntKind.u8 0, Value.int IntKind.u8 0,
 Value.int IntKind.u8 0, Value.int IntKind.u8 0, Value.int IntKind.u8 0, Value.int IntKind.u8 0,
 Value.int IntKind.u8 0, Value.int IntKind.u8 0, Value.int IntKind.u8 0, Value.int IntKind.u8 0,
 Value.int IntKind.u8 0, Value.int IntKind.u8 0, Value.int IntKind.u8 0, Value.int IntKind.u8 0],
 Value.int IntKind.i64 20]
 w' fun (e : Ending) (w'_2 : World) =>
 ∃ (f : Nat → Int),
 ∃ (x_5 : ByteArray),
 ∃ (x_6 : ByteArray),
 ∃ (x_7 : Int),
 ∃ (x_8 : Int),
 ∃ (f_1 : Nat → Int),
 ∃ (x_9 : Int),
 ∃ (x_10 : ByteArray),
 ∃ (x_11 : Int),
 e =
 Ending.returned
 (Value.tuple
 #[Value.agg
 (arrI IntKind.u8 f 32 0 ++ ([Value.string x_5,
 Value.string x_6, Value.int IntKind.i64 x_7, Value.int IntKind.i64 x_8] ++ arrI IntKind.u8 f_1 16 0 ++ [Value.int IntKind.i64 x_9, Value.string x_10])).toArray,
 Value.int IntKind.i64 x_11]) ∧
 KeptL [n_3, n_2, n_1, n] w' w'_2 ∧
 ∀ (n_5 : Nat) (W : World),
 Loc w.heap.size
 [Blk.mk n_5 48
 (arrI IntKind.u8 f 32 0 ++ ([Value.string x_5,
 Value.string x_6, Value.int IntKind.i64 x_7, Value.int IntKind.i64 x_8] ++ arrI IntKind.u8 f_1 16 0 ++ [Value.int IntKind.i64 x_9, Value.string x_10]))
 (wrM 2),
 Blk.mk n_3 32
 [Value.int IntKind.u8 3, Value.int IntKind.u8 0, Value.int IntKind.u8 0,
 Value.int IntKind.u8 0, Value.int IntKind.u8 0, Value.int IntKind.u8 0,
 Value.int IntKind.u8 0, Value.int IntKind.u8 0, Value.int IntKind.u8 0,
 Value.int IntKind.u8 0, Value.int IntKind.u8 0, Value.int IntKind.u8 0,
 Value.int IntKind.u8 0, Value.int IntKind.u8 0, Value.int IntKind.u8 0,
 Value.int IntKind.u8 0, Value.int IntKind.u8 0, Value.int IntKind.u8 0,
 Value.int IntKind.u8 0, Value.int IntKind.u8 0, Value.int IntKind.u8 0,
 Value.int IntKind.u8 0, Value.int IntKind.u8 0, Value.int IntKind.u8 0,
 Value.int IntKind.u8 0, Value.int IntKind.u8 0, Value.int IntKind.u8 0,
 Value.int IntKind.u8 0, Value.int IntKind.u8 0, Value.int IntKind.u8 0,
 Value.int IntKind.u8 0, Value.int IntKind.u8 0]
 0,
 Blk.mk n_2 32
 [Value.int IntKind.u8 7, Value.int IntKind.u8 0, Value.int IntKind.u8 0,
 Value.int IntKind.u8 0, Value.int IntKind.u8 0, Value.int IntKind.u8 0,
 Value.int IntKind.u8 0, Value.int IntKind.u8 0, Value.int IntKind.u8 0,
 Value.int IntKind.u8 0, Value.int IntKind.u8 0, Value.int IntKind.u8 0,
 Value.int IntKind.u8 0, Value.int IntKind.u8 0, Value.int IntKind.u8 0,
 Value.int IntKind.u8 0, Value.int IntKind.u8 0, Value.int IntKind.u8 0,
 Value.int IntKind.u8 0, Value.int IntKind.u8 0, Value.int IntKind.u8 0,
 Value.int IntKind.u8 0, Value.int IntKind.u8 0, Value.int IntKind.u8 0,
 Value.int IntKind.u8 0, Value.int IntKind.u8 0, Value.int IntKind.u8 0,
 Value.int IntKind.u8 0, Value.int IntKind.u8 0, Value.int IntKind.u8 0,
 Value.int IntKind.u8 0, Value.int IntKind.u8 0]
 0,
 Blk.mk n_1 45
 [Value.int IntKind.u8 2, Value.int IntKind.u8 0, Value.int IntKind.u8 0,
 Value.int IntKind.u8 0, Value.int IntKind.u8 0, Value.int IntKind.u8 0,
 Value.int IntKind.u8 0, Value.int IntKind.u8 0, Value.int IntKind.u8 0,
 Value.int IntKind.u8 0, Value.int IntKind.u8 0, Value.int IntKind.u8 0,
 Value.int IntKind.u8 0, Value.int IntKind.u8 0, Value.int IntKind.u8 0,
 Value.int IntKind.u8 0]
 0,
 Blk.mk n 45
 [Value.int IntKind.u8 1, Value.int IntKind.u8 0, Value.int IntKind.u8 0,
 Value.int IntKind.u8 0, Value.int IntKind.u8 0, Value.int IntKind.u8 0,
 Value.int IntKind.u8 0, Value.int IntKind.u8 0, Value.int IntKind.u8 0,
 Value.int IntKind.u8 0, Value.int IntKind.u8 0, Value.int IntKind.u8 0,
 Value.int IntKind.u8 0, Value.int IntKind.u8 0, Value.int IntKind.u8 0,
 Value.int IntKind.u8 0]
 0]
 w'_2 W →
 CallsS Tryz.prog 39
 #[Value.pointer x, Value.string (ByteArray.mk #[103]),
 Value.agg
 #[Value.int IntKind.u8 1, Value.int IntKind.u8 0, Value.int IntKind.u8 0,
 Value.int IntKind.u8 0, Value.int IntKind.u8 0, Value.int IntKind.u8 0,
 Value.int IntKind.u8 0, Value.int IntKind.u8 0, Value.int IntKind.u8 0,
 Value.int IntKind.u8 0, Value.int IntKind.u8 0, Value.int IntKind.u8 0,
 Value.int IntKind.u8 0, Value.int IntKind.u8 0, Value.int IntKind.u8 0,
 Value.int IntKind.u8 0],
 Value.int IntKind.i64 20]
 W fun (e : Ending) (w' : World) =>
 ∃ (f_2 : Nat → Int),
 ∃ (x_12 : ByteArray),
 ∃ (x_13 : ByteArray),
 ∃ (x_14 : Int),
 ∃ (x_15 : Int),
 ∃ (f_3 : Nat → Int),
 ∃ (x_16 : Int),
 ∃ (x_17 : ByteArray),
 ∃ (x_18 : Int),
 e =
 Ending.returned
 (Value.tuple
 #[Value.agg
 (arrI IntKind.u8 f_2 32 0 ++ ([Value.string x_12, Value.string x_13, Value.int IntKind.i64 x_14,
 Value.int IntKind.i64 x_15] ++ arrI IntKind.u8 f_3 16 0 ++ [Value.int IntKind.i64 x_16,
 Value.string x_17])).toArray,
 Value.int IntKind.i64 x_18]) ∧
 KeptL [n_5, n_3, n_2, n_1, n] W w' ∧
 ∀ (n_6 : Nat) (W : World),
 Loc w.heap.size
 [Blk.mk n_6 48
 (arrI IntKind.u8 f_2 32 0 ++ ([Value.string x_12, Value.string x_13, Value.int IntKind.i64 x_14,
 Value.int IntKind.i64 x_15] ++ arrI IntKind.u8 f_3 16 0 ++ [Value.int IntKind.i64 x_16,
 Value.string x_17]))
 (wrM 2),
 Blk.mk n_5 48
 (arrI IntKind.u8 f 32 0 ++ ([Value.string x_5, Value.string x_6, Value.int IntKind.i64 x_7,
 Value.int IntKind.i64 x_8] ++ arrI IntKind.u8 f_1 16 0 ++ [Value.int IntKind.i64 x_9,
 Value.string x_10]))
 0,
 Blk.mk n_3 32
 [Value.int IntKind.u8 3, Value.int IntKind.u8 0,
 Value.int IntKind.u8 0, Value.int IntKind.u8 0,
 Value.int IntKind.u8 0, Value.int IntKind.u8 0,
 Value.int IntKind.u8 0, Value.int IntKind.u8 0,
 Value.int IntKind.u8 0, Value.int IntKind.u8 0,
 Value.int IntKind.u8 0, Value.int IntKind.u8 0,
 Value.int IntKind.u8 0, Value.int IntKind.u8 0,
 Value.int IntKind.u8 0, Value.int IntKind.u8 0,
 Value.int IntKind.u8 0, Value.int IntKind.u8 0,
 Value.int IntKind.u8 0, Value.int IntKind.u8 0,
 Value.int IntKind.u8 0, Value.int IntKind.u8 0,
 Value.int IntKind.u8 0, Value.int IntKind.u8 0,
 Value.int IntKind.u8 0, Value.int IntKind.u8 0,
 Value.int IntKind.u8 0, Value.int IntKind.u8 0,
 Value.int IntKind.u8 0, Value.int IntKind.u8 0,
 Value.int IntKind.u8 0, Value.int IntKind.u8 0]
 0,
 Blk.mk n_2 32
 [Value.int IntKind.u8 7, Value.int IntKind.u8 0,
 Value.int IntKind.u8 0, Value.int IntKind.u8 0,
 Value.int IntKind.u8 0, Value.int IntKind.u8 0,
 Value.int IntKind.u8 0, Value.int IntKind.u8 0,
 Value.int IntKind.u8 0, Value.int IntKind.u8 0,
 Value.int IntKind.u8 0, Value.int IntKind.u8 0,
 Value.int IntKind.u8 0, Value.int IntKind.u8 0,
 Value.int IntKind.u8 0, Value.int IntKind.u8 0,
 Value.int IntKind.u8 0, Value.int IntKind.u8 0,
 Value.int IntKind.u8 0, Value.int IntKind.u8 0,
 Value.int IntKind.u8 0, Value.int IntKind.u8 0,
 Value.int IntKind.u8 0, Value.int IntKind.u8 0,
 Value.int IntKind.u8 0, Value.int IntKind.u8 0,
 Value.int IntKind.u8 0, Value.int IntKind.u8 0,
 Value.int IntKind.u8 0, Value.int IntKind.u8 0,
 Value.int IntKind.u8 0, Value.int IntKind.u8 0]
 0,
 Blk.mk n_1 45
 [Value.int IntKind.u8 2, Value.int IntKind.u8 0,
 Value.int IntKind.u8 0, Value.int IntKind.u8 0,
 Value.int IntKind.u8 0, Value.int IntKind.u8 0,
 Value.int IntKind.u8 0, Value.int IntKind.u8 0,
 Value.int IntKind.u8 0, Value.int IntKind.u8 0,
 Value.int IntKind.u8 0, Value.int IntKind.u8 0,
 Value.int IntKind.u8 0, Value.int IntKind.u8 0,
 Value.int IntKind.u8 0, Value.int IntKind.u8 0]
 0,
 Blk.mk n 45
 [Value.int IntKind.u8 1, Value.int IntKind.u8 0,
 Value.int IntKind.u8 0, Value.int IntKind.u8 0,
 Value.int IntKind.u8 0, Value.int IntKind.u8 0,
 Value.int IntKind.u8 0, Value.int IntKind.u8 0,
 Value.int IntKind.u8 0, Value.int IntKind.u8 0,
 Value.int IntKind.u8 0, Value.int IntKind.u8 0,
 Value.int IntKind.u8 0, Value.int IntKind.u8 0,
 Value.int IntKind.u8 0, Value.int IntKind.u8 0]
 0]
 w' W →
 CallsS Tryz.prog 39
 #[Value.pointer x, Value.string (ByteArray.mk #[103]),
 Value.agg
 #[Value.int IntKind.u8 2, Value.int IntKind.u8 0,
 Value.int IntKind.u8 0, Value.int IntKind.u8 0,
 Value.int IntKind.u8 0, Value.int IntKind.u8 0,
 Value.int IntKind.u8 0, Value.int IntKind.u8 0,
 Value.int IntKind.u8 0, Value.int IntKind.u8 0,
 Value.int IntKind.u8 0, Value.int IntKind.u8 0,
 Value.int IntKind.u8 0, Value.int IntKind.u8 0,
 Value.int IntKind.u8 0, Value.int IntKind.u8 0],
 Value.int IntKind.i64 20]
 W fun (e : Ending) (w' : World) =>
 ∃ (f_4 : Nat → Int),
 ∃ (x_19 : ByteArray),
 ∃ (x_20 : ByteArray),
 ∃ (x_21 : Int),
 ∃ (x_22 : Int),
 ∃ (f_5 : Nat → Int),
 ∃ (x_23 : Int),
 ∃ (x_24 : ByteArray),
 ∃ (x_25 : Int),
 e =
 Ending.returned
 (Value.tuple
 #[Value.agg
 (arrI IntKind.u8 f_4 32 0 ++ ([Value.string x_19,
 Value.string x_20, Value.int IntKind.i64 x_21,
 Value.int IntKind.i64 x_22] ++ arrI IntKind.u8 f_5 16 0 ++ [Value.int IntKind.i64 x_23, Value.string x_24])).toArray,
 Value.int IntKind.i64 x_25]) ∧
 KeptL [n_6, n_5, n_3, n_2, n_1, n] W w' ∧
 ∀ (n_7 : Nat) (W : World),
 Loc w.heap.size
 [Blk.mk n_7 48
 (arrI IntKind.u8 f_4 32 0 ++ ([Value.string x_19,
 Value.string x_20, Value.int IntKind.i64 x_21,
 Value.int IntKind.i64 x_22] ++ arrI IntKind.u8 f_5 16 0 ++ [Value.int IntKind.i64 x_23, Value.string x_24]))
 (wrM 2),
 Blk.mk n_6 48
 (arrI IntKind.u8 f_2 32 0 ++ ([Value.string x_12,
 Value.string x_13, Value.int IntKind.i64 x_14,
 Value.int IntKind.i64 x_15] ++ arrI IntKind.u8 f_3 16 0 ++ [Value.int IntKind.i64 x_16, Value.string x_17]))
 0,
 Blk.mk n_5 48
 (arrI IntKind.u8 f 32 0 ++ ([Value.string x_5,
 Value.string x_6, Value.int IntKind.i64 x_7,
 Value.int IntKind.i64 x_8] ++ arrI IntKind.u8 f_1 16 0 ++ [Value.int IntKind.i64 x_9, Value.string x_10]))
 0,
 Blk.mk n_3 32
 [Value.int IntKind.u8 3, Value.int IntKind.u8 0,
 Value.int IntKind.u8 0, Value.int IntKind.u8 0,
 Value.int IntKind.u8 0, Value.int IntKind.u8 0,
 Value.int IntKind.u8 0, Value.int IntKind.u8 0,
 Value.int IntKind.u8 0, Value.int IntKind.u8 0,
 Value.int IntKind.u8 0, Value.int IntKind.u8 0,
 Value.int IntKind.u8 0, Value.int IntKind.u8 0,
 Value.int IntKind.u8 0, Value.int IntKind.u8 0,
 Value.int IntKind.u8 0, Value.int IntKind.u8 0,
 Value.int IntKind.u8 0, Value.int IntKind.u8 0,
 Value.int IntKind.u8 0, Value.int IntKind.u8 0,
 Value.int IntKind.u8 0, Value.int IntKind.u8 0,
 Value.int IntKind.u8 0, Value.int IntKind.u8 0,
 Value.int IntKind.u8 0, Value.int IntKind.u8 0,
 Value.int IntKind.u8 0, Value.int IntKind.u8 0,
 Value.int IntKind.u8 0, Value.int IntKind.u8 0]
 0,
 Blk.mk n_2 32
 [Value.int IntKind.u8 7, Value.int IntKind.u8 0,
 Value.int IntKind.u8 0, Value.int IntKind.u8 0,
 Value.int IntKind.u8 0, Value.int IntKind.u8 0,
 Value.int IntKind.u8 0, Value.int IntKind.u8 0,
 Value.int IntKind.u8 0, Value.int IntKind.u8 0,
 Value.int IntKind.u8 0, Value.int IntKind.u8 0,
 Value.int IntKind.u8 0, Value.int IntKind.u8 0,
 Value.int IntKind.u8 0, Value.int IntKind.u8 0,
 Value.int IntKind.u8 0, Value.int IntKind.u8 0,
 Value.int IntKind.u8 0, Value.int IntKind.u8 0,
 Value.int IntKind.u8 0, Value.int IntKind.u8 0,
 Value.int IntKind.u8 0, Value.int IntKind.u8 0,
 Value.int IntKind.u8 0, Value.int IntKind.u8 0,
 Value.int IntKind.u8 0, Value.int IntKind.u8 0,
 Value.int IntKind.u8 0, Value.int IntKind.u8 0,
 Value.int IntKind.u8 0, Value.int IntKind.u8 0]
 0,
 Blk.mk n_1 45
 [Value.int IntKind.u8 2, Value.int IntKind.u8 0,
 Value.int IntKind.u8 0, Value.int IntKind.u8 0,
 Value.int IntKind.u8 0, Value.int IntKind.u8 0,
 Value.int IntKind.u8 0, Value.int IntKind.u8 0,
 Value.int IntKind.u8 0, Value.int IntKind.u8 0,
 Value.int IntKind.u8 0, Value.int IntKind.u8 0,
 Value.int IntKind.u8 0, Value.int IntKind.u8 0,
 Value.int IntKind.u8 0, Value.int IntKind.u8 0]
 0,
 Blk.mk n 45
 [Value.int IntKind.u8 1, Value.int IntKind.u8 0,
 Value.int IntKind.u8 0, Value.int IntKind.u8 0,
 Value.int IntKind.u8 0, Value.int IntKind.u8 0,
 Value.int IntKind.u8 0, Value.int IntKind.u8 0,
 Value.int IntKind.u8 0, Value.int IntKind.u8 0,
 Value.int IntKind.u8 0, Value.int IntKind.u8 0,
 Value.int IntKind.u8 0, Value.int IntKind.u8 0,
 Value.int IntKind.u8 0, Value.int IntKind.u8 0]
 0]
 w' W →
 CallsS Tryz.prog 19
 #[Value.pointer x,
 Value.agg
 #[Value.int IntKind.u8 3, Value.int IntKind.u8 0,
 Value.int IntKind.u8 0, Value.int IntKind.u8 0,
 Value.int IntKind.u8 0, Value.int IntKind.u8 0,
 Value.int IntKind.u8 0, Value.int IntKind.u8 0,
 Value.int IntKind.u8 0, Value.int IntKind.u8 0,
 Value.int IntKind.u8 0, Value.int IntKind.u8 0,
 Value.int IntKind.u8 0, Value.int IntKind.u8 0,
 Value.int IntKind.u8 0, Value.int IntKind.u8 0,
 Value.int IntKind.u8 0, Value.int IntKind.u8 0,
 Value.int IntKind.u8 0, Value.int IntKind.u8 0,
 Value.int IntKind.u8 0, Value.int IntKind.u8 0,
 Value.int IntKind.u8 0, Value.int IntKind.u8 0,
 Value.int IntKind.u8 0, Value.int IntKind.u8 0,
 Value.int IntKind.u8 0, Value.int IntKind.u8 0,
 Value.int IntKind.u8 0, Value.int IntKind.u8 0,
 Value.int IntKind.u8 0, Value.int IntKind.u8 0],
 Value.string (ByteArray.mk #[103]),
 Value.agg
 #[Value.int IntKind.u8 2, Value.int IntKind.u8 0,
 Value.int IntKind.u8 0, Value.int IntKind.u8 0,
 Value.int IntKind.u8 0, Value.int IntKind.u8 0,
 Value.int IntKind.u8 0, Value.int IntKind.u8 0,
 Value.int IntKind.u8 0, Value.int IntKind.u8 0,
 Value.int IntKind.u8 0, Value.int IntKind.u8 0,
 Value.int IntKind.u8 0, Value.int IntKind.u8 0,
 Value.int IntKind.u8 0, Value.int IntKind.u8 0],
 Value.int IntKind.i64 79]
 W fun (e : Ending) (w' : World) =>
 ∃ (x_26 : Int),
 ∃ (f_6 : Nat → Int),
 ∃ (x_27 : ByteArray),
 ∃ (x_28 : Int),
 ∃ (x_29 : Bool),
 ∃ (p : Option Addr),
 ∃ (n_8 : Nat),
 ∃ (c : Nat),
 ∃ (x_30 : ByteArray),
 ∃ (x_31 : Int),
 ∃ (x_32 : Int),
 ∃ (f_7 : Nat → Int),
 ∃ (x_33 : Int),
 e =
 Ending.returned
 (Value.tuple
 #[Value.agg
 ([Value.int IntKind.i64 x_26] ++ arrI IntKind.u8 f_6 32 0 ++ ([Value.string x_27,
 Value.int IntKind.i64 x_28,
 Value.bool x_29, Value.slice p n_8 c,
 Value.string x_30,
 Value.int IntKind.i64 x_31,
 Value.int IntKind.i64 x_32] ++ arrI IntKind.u8 f_7 16 0)).toArray,
 Value.int IntKind.i64 x_33]) ∧
 KeptL [n_7, n_6, n_5, n_3, n_2, n_1, n] W
 w' ∧
 ∀ (n_9 : Nat) (W : World),
 Loc w.heap.size
 [Blk.mk n_9 42
 ([Value.int IntKind.i64 x_26] ++ arrI IntKind.u8 f_6 32 0 ++ ([Value.string x_27,
 Value.int IntKind.i64 x_28,
 Value.bool x_29,
 Value.slice p n_8 c,
 Value.string x_30,
 Value.int IntKind.i64 x_31,
 Value.int IntKind.i64 x_32] ++ arrI IntKind.u8 f_7 16 0))
 (wrM 2),
 Blk.mk n_7 48
 (arrI IntKind.u8 f_4 32 0 ++ ([Value.string x_19,
 Value.string x_20,
 Value.int IntKind.i64 x_21,
 Value.int IntKind.i64 x_22] ++ arrI IntKind.u8 f_5 16 0 ++ [Value.int IntKind.i64 x_23,
 Value.string x_24]))
 0,
 Blk.mk n_6 48
 (arrI IntKind.u8 f_2 32 0 ++ ([Value.string x_12,
 Value.string x_13,
 Value.int IntKind.i64 x_14,
 Value.int IntKind.i64 x_15] ++ arrI IntKind.u8 f_3 16 0 ++ [Value.int IntKind.i64 x_16,
 Value.string x_17]))
 0,
 Blk.mk n_5 48
 (arrI IntKind.u8 f 32 0 ++ ([Value.string x_5, Value.string x_6,
 Value.int IntKind.i64 x_7,
 Value.int IntKind.i64 x_8] ++ arrI IntKind.u8 f_1 16 0 ++ [Value.int IntKind.i64 x_9,
 Value.string x_10]))
 0,
 Blk.mk n_3 32
 [Value.int IntKind.u8 3,
 Value.int IntKind.u8 0,
 Value.int IntKind.u8 0,
 Value.int IntKind.u8 0,
 Value.int IntKind.u8 0,
 Value.int IntKind.u8 0,
 Value.int IntKind.u8 0,
 Value.int IntKind.u8 0,
 Value.int IntKind.u8 0,
 Value.int IntKind.u8 0,
 Value.int IntKind.u8 0,
 Value.int IntKind.u8 0,
 Value.int IntKind.u8 0,
 Value.int IntKind.u8 0,
 Value.int IntKind.u8 0,
 Value.int IntKind.u8 0,
 Value.int IntKind.u8 0,
 Value.int IntKind.u8 0,
 Value.int IntKind.u8 0,
 Value.int IntKind.u8 0,
 Value.int IntKind.u8 0,
 Value.int IntKind.u8 0,
 Value.int IntKind.u8 0,
 Value.int IntKind.u8 0,
 Value.int IntKind.u8 0,
 Value.int IntKind.u8 0,
 Value.int IntKind.u8 0,
 Value.int IntKind.u8 0,
 Value.int IntKind.u8 0,
 Value.int IntKind.u8 0,
 Value.int IntKind.u8 0,
 Value.int IntKind.u8 0]
 0,
 Blk.mk n_2 32
 [Value.int IntKind.u8 7,
 Value.int IntKind.u8 0,
 Value.int IntKind.u8 0,
 Value.int IntKind.u8 0,
 Value.int IntKind.u8 0,
 Value.int IntKind.u8 0,
 Value.int IntKind.u8 0,
 Value.int IntKind.u8 0,
 Value.int IntKind.u8 0,
 Value.int IntKind.u8 0,
 Value.int IntKind.u8 0,
 Value.int IntKind.u8 0,
 Value.int IntKind.u8 0,
 Value.int IntKind.u8 0,
 Value.int IntKind.u8 0,
 Value.int IntKind.u8 0,
 Value.int IntKind.u8 0,
 Value.int IntKind.u8 0,
 Value.int IntKind.u8 0,
 Value.int IntKind.u8 0,
 Value.int IntKind.u8 0,
 Value.int IntKind.u8 0,
 Value.int IntKind.u8 0,
 Value.int IntKind.u8 0,
 Value.int IntKind.u8 0,
 Value.int IntKind.u8 0,
 Value.int IntKind.u8 0,
 Value.int IntKind.u8 0,
 Value.int IntKind.u8 0,
 Value.int IntKind.u8 0,
 Value.int IntKind.u8 0,
 Value.int IntKind.u8 0]
 0,
 Blk.mk n_1 45
 [Value.int IntKind.u8 2,
 Value.int IntKind.u8 0,
 Value.int IntKind.u8 0,
 Value.int IntKind.u8 0,
 Value.int IntKind.u8 0,
 Value.int IntKind.u8 0,
 Value.int IntKind.u8 0,
 Value.int IntKind.u8 0,
 Value.int IntKind.u8 0,
 Value.int IntKind.u8 0,
 Value.int IntKind.u8 0,
 Value.int IntKind.u8 0,
 Value.int IntKind.u8 0,
 Value.int IntKind.u8 0,
 Value.int IntKind.u8 0,
 Value.int IntKind.u8 0]
 0,
 Blk.mk n 45
 [Value.int IntKind.u8 1,
 Value.int IntKind.u8 0,
 Value.int IntKind.u8 0,
 Value.int IntKind.u8 0,
 Value.int IntKind.u8 0,
 Value.int IntKind.u8 0,
 Value.int IntKind.u8 0,
 Value.int IntKind.u8 0,
 Value.int IntKind.u8 0,
 Value.int IntKind.u8 0,
 Value.int IntKind.u8 0,
 Value.int IntKind.u8 0,
 Value.int IntKind.u8 0,
 Value.int IntKind.u8 0,
 Value.int IntKind.u8 0,
 Value.int IntKind.u8 0]
 0]
 w' W →
 CallsS Tryz.prog 19
 #[Value.pointer x,
 Value.agg
 #[Value.int IntKind.u8 3,
 Value.int IntKind.u8 0,
 Value.int IntKind.u8 0,
 Value.int IntKind.u8 0,
 Value.int IntKind.u8 0,
 Value.int IntKind.u8 0,
 Value.int IntKind.u8 0,
 Value.int IntKind.u8 0,
 Value.int IntKind.u8 0,
 Value.int IntKind.u8 0,
 Value.int IntKind.u8 0,
 Value.int IntKind.u8 0,
 Value.int IntKind.u8 0,
 Value.int IntKind.u8 0,
 Value.int IntKind.u8 0,
 Value.int IntKind.u8 0,
 Value.int IntKind.u8 0,
 Value.int IntKind.u8 0,
 Value.int IntKind.u8 0,
 Value.int IntKind.u8 0,
 Value.int IntKind.u8 0,
 Value.int IntKind.u8 0,
 Value.int IntKind.u8 0,
 Value.int IntKind.u8 0,
 Value.int IntKind.u8 0,
 Value.int IntKind.u8 0,
 Value.int IntKind.u8 0,
 Value.int IntKind.u8 0,
 Value.int IntKind.u8 0,
 Value.int IntKind.u8 0,
 Value.int IntKind.u8 0,
 Value.int IntKind.u8 0],
 Value.string (ByteArray.mk #[103]),
 Value.agg
 #[Value.int IntKind.u8 2,
 Value.int IntKind.u8 0,
 Value.int IntKind.u8 0,
 Value.int IntKind.u8 0,
 Value.int IntKind.u8 0,
 Value.int IntKind.u8 0,
 Value.int IntKind.u8 0,
 Value.int IntKind.u8 0,
 Value.int IntKind.u8 0,
 Value.int IntKind.u8 0,
 Value.int IntKind.u8 0,
 Value.int IntKind.u8 0,
 Value.int IntKind.u8 0,
 Value.int IntKind.u8 0,
 Value.int IntKind.u8 0,
 Value.int IntKind.u8 0],
 Value.int IntKind.i64 80]
 W fun (e : Ending) (w' : World) =>
 ∃ (x_34 : Int),
 ∃ (f_8 : Nat → Int),
 ∃ (x_35 : ByteArray),
 ∃ (x_36 : Int),
 ∃ (x_37 : Bool),
 ∃ (p_1 : Option Addr),
 ∃ (n_10 : Nat),
 ∃ (c_1 : Nat),
 ∃ (x_38 : ByteArray),
 ∃ (x_39 : Int),
 ∃ (x_40 : Int),
 ∃ (f_9 : Nat → Int),
 ∃ (x_41 : Int),
 e =
 Ending.returned
 (Value.tuple
 #[Value.agg
 ([Value.int
 IntKind.i64 x_34] ++ arrI IntKind.u8 f_8 32 0 ++ ([Value.string x_35,
 Value.int
 IntKind.i64 x_36,
 Value.bool x_37,
 Value.slice p_1
 n_10 c_1,
 Value.string x_38,
 Value.int
 IntKind.i64 x_39,
 Value.int
 IntKind.i64 x_40] ++ arrI IntKind.u8 f_9 16 0)).toArray,
 Value.int IntKind.i64
 x_41]) ∧
 KeptL
 [n_9, n_7, n_6, n_5,
 n_3, n_2, n_1, n]
 W w' ∧
 ∀ (n_11 : Nat),
 ∃ (f_10 : Nat → Int),
 gimp
 (x_2 == 0 &&
 x_3 == 0 &&
 x_4 == 0 &&
 x_11 == 0)
 (∀ (W : World),
 Loc w.heap.size
 [Blk.mk n_11 42
 ([Value.int
 IntKind.i64
 x_34] ++ arrI IntKind.u8 f_8 32 0 ++ ([Value.string
 x_35,
 Value.int
 IntKind.i64
 x_36,
 Value.bool
 x_37,
 Value.slice
 p_1 n_10 c_1,
 Value.string
 x_38,
 Value.int
 IntKind.i64
 x_39,
 Value.int
 IntKind.i64
 x_40] ++ arrI IntKind.u8 f_9 16 0))
 (wrM 2),
 Blk.mk n_9 42
 ([Value.int
 IntKind.i64
 x_26] ++ arrI IntKind.u8 f_6 32 0 ++ ([Value.string
 x_27,
 Value.int
 IntKind.i64
 x_28,
 Value.bool
 x_29,
 Value.slice p
 n_8 c,
 Value.string
 x_30,
 Value.int
 IntKind.i64
 x_31,
 Value.int
 IntKind.i64
 x_32] ++ arrI IntKind.u8 f_7 16 0))
 0,
 Blk.mk n_7 48
 (arrI IntKind.u8 f_4 32 0 ++ ([Value.string
 x_19,
 Value.string
 x_20,
 Value.int
 IntKind.i64
 x_21,
 Value.int
 IntKind.i64
 x_22] ++ arrI IntKind.u8 f_5 16 0 ++ [Value.int
 IntKind.i64
 x_23,
 Value.string
 x_24]))
 0,
 Blk.mk n_6 48
 (arrI IntKind.u8 f_2 32 0 ++ ([Value.string
 x_12,
 Value.string
 x_13,
 Value.int
 IntKind.i64
 x_14,
 Value.int
 IntKind.i64
 x_15] ++ arrI IntKind.u8 f_3 16 0 ++ [Value.int
 IntKind.i64
 x_16,
 Value.string
 x_17]))
 0,
 Blk.mk n_5 48
 (arrI IntKind.u8 f 32 0 ++ ([Value.string
 x_5,
 Value.string
 x_6,
 Value.int
 IntKind.i64
 x_7,
 Value.int
 IntKind.i64
 x_8] ++ arrI IntKind.u8 f_1 16 0 ++ [Value.int
 IntKind.i64
 x_9,
 Value.string
 x_10]))
 0,
 Blk.mk n_3 32
 [Value.int
 IntKind.u8 3,
 Value.int
 IntKind.u8 0,
 Value.int
 IntKind.u8 0,
 Value.int
 IntKind.u8 0,
 Value.int
 IntKind.u8 0,
 Value.int
 IntKind.u8 0,
 Value.int
 IntKind.u8 0,
 Value.int
 IntKind.u8 0,
 Value.int
 IntKind.u8 0,
 Value.int
 IntKind.u8 0,
 Value.int
 IntKind.u8 0,
 Value.int
 IntKind.u8 0,
 Value.int
 IntKind.u8 0,
 Value.int
 IntKind.u8 0,
 Value.int
 IntKind.u8 0,
 Value.int
 IntKind.u8 0,
 Value.int
 IntKind.u8 0,
 Value.int
 IntKind.u8 0,
 Value.int
 IntKind.u8 0,
 Value.int
 IntKind.u8 0,
 Value.int
 IntKind.u8 0,
 Value.int
 IntKind.u8 0,
 Value.int
 IntKind.u8 0,
 Value.int
 IntKind.u8 0,
 Value.int
 IntKind.u8 0,
 Value.int
 IntKind.u8 0,
 Value.int
 IntKind.u8 0,
 Value.int
 IntKind.u8 0,
 Value.int
 IntKind.u8 0,
 Value.int
 IntKind.u8 0,
 Value.int
 IntKind.u8 0,
 Value.int
 IntKind.u8 0]
 0,
 Blk.mk n_2 32
 [Value.int
 IntKind.u8 7,
 Value.int
 IntKind.u8 0,
 Value.int
 IntKind.u8 0,
 Value.int
 IntKind.u8 0,
 Value.int
 IntKind.u8 0,
 Value.int
 IntKind.u8 0,
 Value.int
 IntKind.u8 0,
 Value.int
 IntKind.u8 0,
 Value.int
 IntKind.u8 0,
 Value.int
 IntKind.u8 0,
 Value.int
 IntKind.u8 0,
 Value.int
 IntKind.u8 0,
 Value.int
 IntKind.u8 0,
 Value.int
 IntKind.u8 0,
 Value.int
 IntKind.u8 0,
 Value.int
 IntKind.u8 0,
 Value.int
 IntKind.u8 0,
 Value.int
 IntKind.u8 0,
 Value.int
 IntKind.u8 0,
 Value.int
 IntKind.u8 0,
 Value.int
 IntKind.u8 0,
 Value.int
 IntKind.u8 0,
 Value.int
 IntKind.u8 0,
 Value.int
 IntKind.u8 0,
 Value.int
 IntKind.u8 0,
 Value.int
 IntKind.u8 0,
 Value.int
 IntKind.u8 0,
 Value.int
 IntKind.u8 0,
 Value.int
 IntKind.u8 0,
 Value.int
 IntKind.u8 0,
 Value.int
 IntKind.u8 0,
 Value.int
 IntKind.u8 0]
 0,
 Blk.mk n_1 45
 [Value.int
 IntKind.u8 2,
 Value.int
 IntKind.u8 0,
 Value.int
 IntKind.u8 0,
 Value.int
 IntKind.u8 0,
 Value.int
 IntKind.u8 0,
 Value.int
 IntKind.u8 0,
 Value.int
 IntKind.u8 0,
 Value.int
 IntKind.u8 0,
 Value.int
 IntKind.u8 0,
 Value.int
 IntKind.u8 0,
 Value.int
 IntKind.u8 0,
 Value.int
 IntKind.u8 0,
 Value.int
 IntKind.u8 0,
 Value.int
 IntKind.u8 0,
 Value.int
 IntKind.u8 0,
 Value.int
 IntKind.u8 0]
 0,
 Blk.mk n 45
 [Value.int
 IntKind.u8 1,
 Value.int
 IntKind.u8 0,
 Value.int
 IntKind.u8 0,
 Value.int
 IntKind.u8 0,
 Value.int
 IntKind.u8 0,
 Value.int
 IntKind.u8 0,
 Value.int
 IntKind.u8 0,
 Value.int
 IntKind.u8 0,
 Value.int
 IntKind.u8 0,
 Value.int
 IntKind.u8 0,
 Value.int
 IntKind.u8 0,
 Value.int
 IntKind.u8 0,
 Value.int
 IntKind.u8 0,
 Value.int
 IntKind.u8 0,
 Value.int
 IntKind.u8 0,
 Value.int
 IntKind.u8 0]
 0]
 w' W →
 AtL W n_5 0
 (arrI IntKind.u8 f_10 32 0)) ∧
 ∃ (r : Bool),
 gimp
 (x_2 == 0 &&
 x_3 == 0 &&
 x_4 == 0 &&
 x_11 == 0)
 (EqP Tryz.prog 32
 (Value.agg
 (arrI IntKind.u8 f_10 32 0).toArray)
 (Value.agg
 #[Value.int
 IntKind.u8 3,
 Value.int
 IntKind.u8 0,
 Value.int
 IntKind.u8 0,
 Value.int
 IntKind.u8 0,
 Value.int
 IntKind.u8 0,
 Value.int
 IntKind.u8 0,
 Value.int
 IntKind.u8 0,
 Value.int
 IntKind.u8 0,
 Value.int
 IntKind.u8 0,
 Value.int
 IntKind.u8 0,
 Value.int
 IntKind.u8 0,
 Value.int
 IntKind.u8 0,
 Value.int
 IntKind.u8 0,
 Value.int
 IntKind.u8 0,
 Value.int
 IntKind.u8 0,
 Value.int
 IntKind.u8 0,
 Value.int
 IntKind.u8 0,
 Value.int
 IntKind.u8 0,
 Value.int
 IntKind.u8 0,
 Value.int
 IntKind.u8 0,
 Value.int
 IntKind.u8 0,
 Value.int
 IntKind.u8 0,
 Value.int
 IntKind.u8 0,
 Value.int
 IntKind.u8 0,
 Value.int
 IntKind.u8 0,
 Value.int
 IntKind.u8 0,
 Value.int
 IntKind.u8 0,
 Value.int
 IntKind.u8 0,
 Value.int
 IntKind.u8 0,
 Value.int
 IntKind.u8 0,
 Value.int
 IntKind.u8 0,
 Value.int
 IntKind.u8 0])
 r) ∧
 ∃ (x_42 :
 ByteArray),
 gimp
 (x_2 == 0 &&
 x_3 == 0 &&
 x_4 == 0 &&
 x_11 == 0 &&
 r)
 (∀ (W : World),
 Loc w.heap.size
 [Blk.mk n_11
 42
 ([Value.int
 IntKind.i64
 x_34] ++ arrI IntKind.u8 f_8 32 0 ++ ([Value.string
 x_35,
 Value.int
 IntKind.i64
 x_36,
 Value.bool
 x_37,
 Value.slice
 p_1 n_10
 c_1,
 Value.string
 x_38,
 Value.int
 IntKind.i64
 x_39,
 Value.int
 IntKind.i64
 x_40] ++ arrI IntKind.u8 f_9 16 0))
 (wrM 2),
 Blk.mk n_9
 42
 ([Value.int
 IntKind.i64
 x_26] ++ arrI IntKind.u8 f_6 32 0 ++ ([Value.string
 x_27,
 Value.int
 IntKind.i64
 x_28,
 Value.bool
 x_29,
 Value.slice
 p n_8 c,
 Value.string
 x_30,
 Value.int
 IntKind.i64
 x_31,
 Value.int
 IntKind.i64
 x_32] ++ arrI IntKind.u8 f_7 16 0))
 0,
 Blk.mk n_7
 48
 (arrI IntKind.u8 f_4 32 0 ++ ([Value.string
 x_19,
 Value.string
 x_20,
 Value.int
 IntKind.i64
 x_21,
 Value.int
 IntKind.i64
 x_22] ++ arrI IntKind.u8 f_5 16 0 ++ [Value.int
 IntKind.i64
 x_23,
 Value.string
 x_24]))
 0,
 Blk.mk n_6
 48
 (arrI IntKind.u8 f_2 32 0 ++ ([Value.string
 x_12,
 Value.string
 x_13,
 Value.int
 IntKind.i64
 x_14,
 Value.int
 IntKind.i64
 x_15] ++ arrI IntKind.u8 f_3 16 0 ++ [Value.int
 IntKind.i64
 x_16,
 Value.string
 x_17]))
 0,
 Blk.mk n_5
 48
 (arrI IntKind.u8 f 32 0 ++ ([Value.string
 x_5,
 Value.string
 x_6,
 Value.int
 IntKind.i64
 x_7,
 Value.int
 IntKind.i64
 x_8] ++ arrI IntKind.u8 f_1 16 0 ++ [Value.int
 IntKind.i64
 x_9,
 Value.string
 x_10]))
 0,
 Blk.mk n_3
 32
 [Value.int
 IntKind.u8
 3,
 Value.int
 IntKind.u8
 0,
 Value.int
 IntKind.u8
 0,
 Value.int
 IntKind.u8
 0,
 Value.int
 IntKind.u8
 0,
 Value.int
 IntKind.u8
 0,
 Value.int
 IntKind.u8
 0,
 Value.int
 IntKind.u8
 0,
 Value.int
 IntKind.u8
 0,
 Value.int
 IntKind.u8
 0,
 Value.int
 IntKind.u8
 0,
 Value.int
 IntKind.u8
 0,
 Value.int
 IntKind.u8
 0,
 Value.int
 IntKind.u8
 0,
 Value.int
 IntKind.u8
 0,
 Value.int
 IntKind.u8
 0,
 Value.int
 IntKind.u8
 0,
 Value.int
 IntKind.u8
 0,
 Value.int
 IntKind.u8
 0,
 Value.int
 IntKind.u8
 0,
 Value.int
 IntKind.u8
 0,
 Value.int
 IntKind.u8
 0,
 Value.int
 IntKind.u8
 0,
 Value.int
 IntKind.u8
 0,
 Value.int
 IntKind.u8
 0,
 Value.int
 IntKind.u8
 0,
 Value.int
 IntKind.u8
 0,
 Value.int
 IntKind.u8
 0,
 Value.int
 IntKind.u8
 0,
 Value.int
 IntKind.u8
 0,
 Value.int
 IntKind.u8
 0,
 Value.int
 IntKind.u8
 0]
 0,
 Blk.mk n_2
 32
 [Value.int
 IntKind.u8
 7,
 Value.int
 IntKind.u8
 0,
 Value.int
 IntKind.u8
 0,
 Value.int
 IntKind.u8
 0,
 Value.int
 IntKind.u8
 0,
 Value.int
 IntKind.u8
 0,
 Value.int
 IntKind.u8
 0,
 Value.int
 IntKind.u8
 0,
 Value.int
 IntKind.u8
 0,
 Value.int
 IntKind.u8
 0,
 Value.int
 IntKind.u8
 0,
 Value.int
 IntKind.u8
 0,
 Value.int
 IntKind.u8
 0,
 Value.int
 IntKind.u8
 0,
 Value.int
 IntKind.u8
 0,
 Value.int
 IntKind.u8
 0,
 Value.int
 IntKind.u8
 0,
 Value.int
 IntKind.u8
 0,
 Value.int
 IntKind.u8
 0,
 Value.int
 IntKind.u8
 0,
 Value.int
 IntKind.u8
 0,
 Value.int
 IntKind.u8
 0,
 Value.int
 IntKind.u8
 0,
 Value.int
 IntKind.u8
 0,
 Value.int
 IntKind.u8
 0,
 Value.int
 IntKind.u8
 0,
 Value.int
 IntKind.u8
 0,
 Value.int
 IntKind.u8
 0,
 Value.int
 IntKind.u8
 0,
 Value.int
 IntKind.u8
 0,
 Value.int
 IntKind.u8
 0,
 Value.int
 IntKind.u8
 0]
 0,
 Blk.mk n_1
 45
 [Value.int
 IntKind.u8
 2,
 Value.int
 IntKind.u8
 0,
 Value.int
 IntKind.u8
 0,
 Value.int
 IntKind.u8
 0,
 Value.int
 IntKind.u8
 0,
 Value.int
 IntKind.u8
 0,
 Value.int
 IntKind.u8
 0,
 Value.int
 IntKind.u8
 0,
 Value.int
 IntKind.u8
 0,
 Value.int
 IntKind.u8
 0,
 Value.int
 IntKind.u8
 0,
 Value.int
 IntKind.u8
 0,
 Value.int
 IntKind.u8
 0,
 Value.int
 IntKind.u8
 0,
 Value.int
 IntKind.u8
 0,
 Value.int
 IntKind.u8
 0]
 0,
 Blk.mk n 45
 [Value.int
 IntKind.u8
 1,
 Value.int
 IntKind.u8
 0,
 Value.int
 IntKind.u8
 0,
 Value.int
 IntKind.u8
 0,
 Value.int
 IntKind.u8
 0,
 Value.int
 IntKind.u8
 0,
 Value.int
 IntKind.u8
 0,
 Value.int
 IntKind.u8
 0,
 Value.int
 IntKind.u8
 0,
 Value.int
 IntKind.u8
 0,
 Value.int
 IntKind.u8
 0,
 Value.int
 IntKind.u8
 0,
 Value.int
 IntKind.u8
 0,
 Value.int
 IntKind.u8
 0,
 Value.int
 IntKind.u8
 0,
 Value.int
 IntKind.u8
 0]
 0]
 w' W →
 W.cell?
 (Addr.mk n_5
 (0 + 33)
 none) =
 some
 (Value.string
 x_42)) ∧
 ∃ (f_11 :
 Nat → Int),
 gimp
 (x_2 == 0 &&
 x_3 ==
 0 &&
 x_4 ==
 0 &&
 x_11 ==
 0 &&
 r &&
 x_42.toList ==
 [(ByteArray.mk
 #[116,
 101,
 120,
 116,
 32,
 111,
 102,
 32,
 121]).get!
 0,
 (ByteArray.mk
 #[116,
 101,
 120,
 116,
 32,
 111,
 102,
 32,
 121]).get!
 1,
 (ByteArray.mk
 #[116,
 101,
 120,
 116,
 32,
 111,
 102,
 32,
 121]).get!
 2,
 (ByteArray.mk
 #[116,
 101,
 120,
 116,
 32,
 111,
 102,
 32,
 121]).get!
 3,
 (ByteArray.mk
 #[116,
 101,
 120,
 116,
 32,
 111,
 102,
 32,
 121]).get!
 4,
 (ByteArray.mk
 #[116,
 101,
 120,
 116,
 32,
 111,
 102,
 32,
 121]).get!
 5,
 (ByteArray.mk
 #[116,
 101,
 120,
 116,
 32,
 111,
 102,
 32,
 121]).get!
 6,
 (ByteArray.mk
 #[116,
 101,
 120,
 116,
 32,
 111,
 102,
 32,
 121]).get!
 7,
 (ByteArray.mk
 #[116,
 101,
 120,
 116,
 32,
 111,
 102,
 32,
 121]).get!
 8])
 (∀
 (W : World),
 Loc
 w.heap.size
 [Blk.mk
 n_11 42
 ([Value.int
 IntKind.i64
 x_34] ++ arrI IntKind.u8 f_8 32 0 ++ ([Value.string
 x_35,
 Value.int
 IntKind.i64
 x_36,
 Value.bool
 x_37,
 Value.slice
 p_1
 n_10
 c_1,
 Value.string
 x_38,
 Value.int
 IntKind.i64
 x_39,
 Value.int
 IntKind.i64
 x_40] ++ arrI IntKind.u8 f_9 16 0))
 (wrM 2),
 Blk.mk n_9
 42
 ([Value.int
 IntKind.i64
 x_26] ++ arrI IntKind.u8 f_6 32 0 ++ ([Value.string
 x_27,
 Value.int
 IntKind.i64
 x_28,
 Value.bool
 x_29,
 Value.slice
 p n_8
 c,
 Value.string
 x_30,
 Value.int
 IntKind.i64
 x_31,
 Value.int
 IntKind.i64
 x_32] ++ arrI IntKind.u8 f_7 16 0))
 0,
 Blk.mk n_7
 48
 (arrI IntKind.u8 f_4 32 0 ++ ([Value.string
 x_19,
 Value.string
 x_20,
 Value.int
 IntKind.i64
 x_21,
 Value.int
 IntKind.i64
 x_22] ++ arrI IntKind.u8 f_5 16 0 ++ [Value.int
 IntKind.i64
 x_23,
 Value.string
 x_24]))
 0,
 Blk.mk n_6
 48
 (arrI IntKind.u8 f_2 32 0 ++ ([Value.string
 x_12,
 Value.string
 x_13,
 Value.int
 IntKind.i64
 x_14,
 Value.int
 IntKind.i64
 x_15] ++ arrI IntKind.u8 f_3 16 0 ++ [Value.int
 IntKind.i64
 x_16,
 Value.string
 x_17]))
 0,
 Blk.mk n_5
 48
 (arrI IntKind.u8 f 32 0 ++ ([Value.string
 x_5,
 Value.string
 x_6,
 Value.int
 IntKind.i64
 x_7,
 Value.int
 IntKind.i64
 x_8] ++ arrI IntKind.u8 f_1 16 0 ++ [Value.int
 IntKind.i64
 x_9,
 Value.string
 x_10]))
 0,
 Blk.mk n_3
 32
 [Value.int
 IntKind.u8
 3,
 Value.int
 IntKind.u8
 0,
 Value.int
 IntKind.u8
 0,
 Value.int
 IntKind.u8
 0,
 Value.int
 IntKind.u8
 0,
 Value.int
 IntKind.u8
 0,
 Value.int
 IntKind.u8
 0,
 Value.int
 IntKind.u8
 0,
 Value.int
 IntKind.u8
 0,
 Value.int
 IntKind.u8
 0,
 Value.int
 IntKind.u8
 0,
 Value.int
 IntKind.u8
 0,
 Value.int
 IntKind.u8
 0,
 Value.int
 IntKind.u8
 0,
 Value.int
 IntKind.u8
 0,
 Value.int
 IntKind.u8
 0,
 Value.int
 IntKind.u8
 0,
 Value.int
 IntKind.u8
 0,
 Value.int
 IntKind.u8
 0,
 Value.int
 IntKind.u8
 0,
 Value.int
 IntKind.u8
 0,
 Value.int
 IntKind.u8
 0,
 Value.int
 IntKind.u8
 0,
 Value.int
 IntKind.u8
 0,
 Value.int
 IntKind.u8
 0,
 Value.int
 IntKind.u8
 0,
 Value.int
 IntKind.u8
 0,
 Value.int
 IntKind.u8
 0,
 Value.int
 IntKind.u8
 0,
 Value.int
 IntKind.u8
 0,
 Value.int
 IntKind.u8
 0,
 Value.int
 IntKind.u8
 0]
 0,
 Blk.mk n_2
 32
 [Value.int
 IntKind.u8
 7,
 Value.int
 IntKind.u8
 0,
 Value.int
 IntKind.u8
 0,
 Value.int
 IntKind.u8
 0,
 Value.int
 IntKind.u8
 0,
 Value.int
 IntKind.u8
 0,
 Value.int
 IntKind.u8
 0,
 Value.int
 IntKind.u8
 0,
 Value.int
 IntKind.u8
 0,
 Value.int
 IntKind.u8
 0,
 Value.int
 IntKind.u8
 0,
 Value.int
 IntKind.u8
 0,
 Value.int
 IntKind.u8
 0,
 Value.int
 IntKind.u8
 0,
 Value.int
 IntKind.u8
 0,
 Value.int
 IntKind.u8
 0,
 Value.int
 IntKind.u8
 0,
 Value.int
 IntKind.u8
 0,
 Value.int
 IntKind.u8
 0,
 Value.int
 IntKind.u8
 0,
 Value.int
 IntKind.u8
 0,
 Value.int
 IntKind.u8
 0,
 Value.int
 IntKind.u8
 0,
 Value.int
 IntKind.u8
 0,
 Value.int
 IntKind.u8
 0,
 Value.int
 IntKind.u8
 0,
 Value.int
 IntKind.u8
 0,
 Value.int
 IntKind.u8
 0,
 Value.int
 IntKind.u8
 0,
 Value.int
 IntKind.u8
 0,
 Value.int
 IntKind.u8
 0,
 Value.int
 IntKind.u8
 0]
 0,
 Blk.mk n_1
 45
 [Value.int
 IntKind.u8
 2,
 Value.int
 IntKind.u8
 0,
 Value.int
 IntKind.u8
 0,
 Value.int
 IntKind.u8
 0,
 Value.int
 IntKind.u8
 0,
 Value.int
 IntKind.u8
 0,
 Value.int
 IntKind.u8
 0,
 Value.int
 IntKind.u8
 0,
 Value.int
 IntKind.u8
 0,
 Value.int
 IntKind.u8
 0,
 Value.int
 IntKind.u8
 0,
 Value.int
 IntKind.u8
 0,
 Value.int
 IntKind.u8
 0,
 Value.int
 IntKind.u8
 0,
 Value.int
 IntKind.u8
 0,
 Value.int
 IntKind.u8
 0]
 0,
 Blk.mk n
 45
 [Value.int
 IntKind.u8
 1,
 Value.int
 IntKind.u8
 0,
 Value.int
 IntKind.u8
 0,
 Value.int
 IntKind.u8
 0,
 Value.int
 IntKind.u8
 0,
 Value.int
 IntKind.u8
 0,
 Value.int
 IntKind.u8
 0,
 Value.int
 IntKind.u8
 0,
 Value.int
 IntKind.u8
 0,
 Value.int
 IntKind.u8
 0,
 Value.int
 IntKind.u8
 0,
 Value.int
 IntKind.u8
 0,
 Value.int
 IntKind.u8
 0,
 Value.int
 IntKind.u8
 0,
 Value.int
 IntKind.u8
 0,
 Value.int
 IntKind.u8
 0]
 0]
 w' W →
 AtL W n_6 0
 (arrI IntKind.u8 f_11 32 0)) ∧
 ∃ (r_1 : Bool),
 gimp
 (x_2 == 0 &&
 x_3 ==
 0 &&
 x_4 ==
 0 &&
 x_11 ==
 0 &&
 r &&
 x_42.toList ==
 [(ByteArray.mk
 #[116,
 101,
 120,
 116,
 32,
 111,
 102,
 32,
 121]).get!
 0,
 (ByteArray.mk
 #[116,
 101,
 120,
 116,
 32,
 111,
 102,
 32,
 121]).get!
 1,
 (ByteArray.mk
 #[116,
 101,
 120,
 116,
 32,
 111,
 102,
 32,
 121]).get!
 2,
 (ByteArray.mk
 #[116,
 101,
 120,
 116,
 32,
 111,
 102,
 32,
 121]).get!
 3,
 (ByteArray.mk
 #[116,
 101,
 120,
 116,
 32,
 111,
 102,
 32,
 121]).get!
 4,
 (ByteArray.mk
 #[116,
 101,
 120,
 116,
 32,
 111,
 102,
 32,
 121]).get!
 5,
 (ByteArray.mk
 #[116,
 101,
 120,
 116,
 32,
 111,
 102,
 32,
 121]).get!
 6,
 (ByteArray.mk
 #[116,
 101,
 120,
 116,
 32,
 111,
 102,
 32,
 121]).get!
 7,
 (ByteArray.mk
 #[116,
 101,
 120,
 116,
 32,
 111,
 102,
 32,
 121]).get!
 8])
 (EqP
 Tryz.prog
 32
 (Value.agg
 (arrI IntKind.u8 f_11 32 0).toArray)
 (Value.agg
 #[Value.int
 IntKind.u8
 3,
 Value.int
 IntKind.u8
 0,
 Value.int
 IntKind.u8
 0,
 Value.int
 IntKind.u8
 0,
 Value.int
 IntKind.u8
 0,
 Value.int
 IntKind.u8
 0,
 Value.int
 IntKind.u8
 0,
 Value.int
 IntKind.u8
 0,
 Value.int
 IntKind.u8
 0,
 Value.int
 IntKind.u8
 0,
 Value.int
 IntKind.u8
 0,
 Value.int
 IntKind.u8
 0,
 Value.int
 IntKind.u8
 0,
 Value.int
 IntKind.u8
 0,
 Value.int
 IntKind.u8
 0,
 Value.int
 IntKind.u8
 0,
 Value.int
 IntKind.u8
 0,
 Value.int
 IntKind.u8
 0,
 Value.int
 IntKind.u8
 0,
 Value.int
 IntKind.u8
 0,
 Value.int
 IntKind.u8
 0,
 Value.int
 IntKind.u8
 0,
 Value.int
 IntKind.u8
 0,
 Value.int
 IntKind.u8
 0,
 Value.int
 IntKind.u8
 0,
 Value.int
 IntKind.u8
 0,
 Value.int
 IntKind.u8
 0,
 Value.int
 IntKind.u8
 0,
 Value.int
 IntKind.u8
 0,
 Value.int
 IntKind.u8
 0,
 Value.int
 IntKind.u8
 0,
 Value.int
 IntKind.u8
 0])
 r_1) ∧
 ∃ (f_12 :
 Nat → Int),
 gimp
 (x_2 ==
 0 &&
 x_3 ==
 0 &&
 x_4 ==
 0 &&
 x_11 ==
 0 &&
 r &&
 x_42.toList ==
 [(ByteArray.mk
 #[116,
 101,
 120,
 116,
 32,
 111,
 102,
 32,
 121]).get!
 0,
 (ByteArray.mk
 #[116,
 101,
 120,
 116,
 32,
 111,
 102,
 32,
 121]).get!
 1,
 (ByteArray.mk
 #[116,
 101,
 120,
 116,
 32,
 111,
 102,
 32,
 121]).get!
 2,
 (ByteArray.mk
 #[116,
 101,
 120,
 116,
 32,
 111,
 102,
 32,
 121]).get!
 3,
 (ByteArray.mk
 #[116,
 101,
 120,
 116,
 32,
 111,
 102,
 32,
 121]).get!
 4,
 (ByteArray.mk
 #[116,
 101,
 120,
 116,
 32,
 111,
 102,
 32,
 121]).get!
 5,
 (ByteArray.mk
 #[116,
 101,
 120,
 116,
 32,
 111,
 102,
 32,
 121]).get!
 6,
 (ByteArray.mk
 #[116,
 101,
 120,
 116,
 32,
 111,
 102,
 32,
 121]).get!
 7,
 (ByteArray.mk
 #[116,
 101,
 120,
 116,
 32,
 111,
 102,
 32,
 121]).get!
 8] &&
 r_1)
 (∀
 (W :
 World),
 Loc
 w.heap.size
 [Blk.mk
 n_11
 42
 ([Value.int
 IntKind.i64
 x_34] ++ arrI IntKind.u8 f_8 32 0 ++ ([Value.string
 x_35,
 Value.int
 IntKind.i64
 x_36,
 Value.bool
 x_37,
 Value.slice
 p_1
 n_10
 c_1,
 Value.string
 x_38,
 Value.int
 IntKind.i64
 x_39,
 Value.int
 IntKind.i64
 x_40] ++ arrI IntKind.u8 f_9 16 0))
 (wrM
 2),
 Blk.mk
 n_9
 42
 ([Value.int
 IntKind.i64
 x_26] ++ arrI IntKind.u8 f_6 32 0 ++ ([Value.string
 x_27,
 Value.int
 IntKind.i64
 x_28,
 Value.bool
 x_29,
 Value.slice
 p
 n_8
 c,
 Value.string
 x_30,
 Value.int
 IntKind.i64
 x_31,
 Value.int
 IntKind.i64
 x_32] ++ arrI IntKind.u8 f_7 16 0))
 0,
 Blk.mk
 n_7
 48
 (arrI IntKind.u8 f_4 32 0 ++ ([Value.string
 x_19,
 Value.string
 x_20,
 Value.int
 IntKind.i64
 x_21,
 Value.int
 IntKind.i64
 x_22] ++ arrI IntKind.u8 f_5 16 0 ++ [Value.int
 IntKind.i64
 x_23,
 Value.string
 x_24]))
 0,
 Blk.mk
 n_6
 48
 (arrI IntKind.u8 f_2 32 0 ++ ([Value.string
 x_12,
 Value.string
 x_13,
 Value.int
 IntKind.i64
 x_14,
 Value.int
 IntKind.i64
 x_15] ++ arrI IntKind.u8 f_3 16 0 ++ [Value.int
 IntKind.i64
 x_16,
 Value.string
 x_17]))
 0,
 Blk.mk
 n_5
 48
 (arrI IntKind.u8 f 32 0 ++ ([Value.string
 x_5,
 Value.string
 x_6,
 Value.int
 IntKind.i64
 x_7,
 Value.int
 IntKind.i64
 x_8] ++ arrI IntKind.u8 f_1 16 0 ++ [Value.int
 IntKind.i64
 x_9,
 Value.string
 x_10]))
 0,
 Blk.mk
 n_3
 32
 [Value.int
 IntKind.u8
 3,
 Value.int
 IntKind.u8
 0,
 Value.int
 IntKind.u8
 0,
 Value.int
 IntKind.u8
 0,
 Value.int
 IntKind.u8
 0,
 Value.int
 IntKind.u8
 0,
 Value.int
 IntKind.u8
 0,
 Value.int
 IntKind.u8
 0,
 Value.int
 IntKind.u8
 0,
 Value.int
 IntKind.u8
 0,
 Value.int
 IntKind.u8
 0,
 Value.int
 IntKind.u8
 0,
 Value.int
 IntKind.u8
 0,
 Value.int
 IntKind.u8
 0,
 Value.int
 IntKind.u8
 0,
 Value.int
 IntKind.u8
 0,
 Value.int
 IntKind.u8
 0,
 Value.int
 IntKind.u8
 0,
 Value.int
 IntKind.u8
 0,
 Value.int
 IntKind.u8
 0,
 Value.int
 IntKind.u8
 0,
 Value.int
 IntKind.u8
 0,
 Value.int
 IntKind.u8
 0,
 Value.int
 IntKind.u8
 0,
 Value.int
 IntKind.u8
 0,
 Value.int
 IntKind.u8
 0,
 Value.int
 IntKind.u8
 0,
 Value.int
 IntKind.u8
 0,
 Value.int
 IntKind.u8
 0,
 Value.int
 IntKind.u8
 0,
 Value.int
 IntKind.u8
 0,
 Value.int
 IntKind.u8
 0]
 0,
 Blk.mk
 n_2
 32
 [Value.int
 IntKind.u8
 7,
 Value.int
 IntKind.u8
 0,
 Value.int
 IntKind.u8
 0,
 Value.int
 IntKind.u8
 0,
 Value.int
 IntKind.u8
 0,
 Value.int
 IntKind.u8
 0,
 Value.int
 IntKind.u8
 0,
 Value.int
 IntKind.u8
 0,
 Value.int
 IntKind.u8
 0,
 Value.int
 IntKind.u8
 0,
 Value.int
 IntKind.u8
 0,
 Value.int
 IntKind.u8
 0,
 Value.int
 IntKind.u8
 0,
 Value.int
 IntKind.u8
 0,
 Value.int
 IntKind.u8
 0,
 Value.int
 IntKind.u8
 0,
 Value.int
 IntKind.u8
 0,
 Value.int
 IntKind.u8
 0,
 Value.int
 IntKind.u8
 0,
 Value.int
 IntKind.u8
 0,
 Value.int
 IntKind.u8
 0,
 Value.int
 IntKind.u8
 0,
 Value.int
 IntKind.u8
 0,
 Value.int
 IntKind.u8
 0,
 Value.int
 IntKind.u8
 0,
 Value.int
 IntKind.u8
 0,
 Value.int
 IntKind.u8
 0,
 Value.int
 IntKind.u8
 0,
 Value.int
 IntKind.u8
 0,
 Value.int
 IntKind.u8
 0,
 Value.int
 IntKind.u8
 0,
 Value.int
 IntKind.u8
 0]
 0,
 Blk.mk
 n_1
 45
 [Value.int
 IntKind.u8
 2,
 Value.int
 IntKind.u8
 0,
 Value.int
 IntKind.u8
 0,
 Value.int
 IntKind.u8
 0,
 Value.int
 IntKind.u8
 0,
 Value.int
 IntKind.u8
 0,
 Value.int
 IntKind.u8
 0,
 Value.int
 IntKind.u8
 0,
 Value.int
 IntKind.u8
 0,
 Value.int
 IntKind.u8
 0,
 Value.int
 IntKind.u8
 0,
 Value.int
 IntKind.u8
 0,
 Value.int
 IntKind.u8
 0,
 Value.int
 IntKind.u8
 0,
 Value.int
 IntKind.u8
 0,
 Value.int
 IntKind.u8
 0]
 0,
 Blk.mk
 n 45
 [Value.int
 IntKind.u8
 1,
 Value.int
 IntKind.u8
 0,
 Value.int
 IntKind.u8
 0,
 Value.int
 IntKind.u8
 0,
 Value.int
 IntKind.u8
 0,
 Value.int
 IntKind.u8
 0,
 Value.int
 IntKind.u8
 0,
 Value.int
 IntKind.u8
 0,
 Value.int
 IntKind.u8
 0,
 Value.int
 IntKind.u8
 0,
 Value.int
 IntKind.u8
 0,
 Value.int
 IntKind.u8
 0,
 Value.int
 IntKind.u8
 0,
 Value.int
 IntKind.u8
 0,
 Value.int
 IntKind.u8
 0,
 Value.int
 IntKind.u8
 0]
 0]
 w' W →
 AtL W
 n_7 0
 (arrI IntKind.u8 f_12 32 0)) ∧
 ∃ (r_2 :
 Bool),
 gimp
 (x_2 ==
 0 &&
 x_3 ==
 0 &&
 x_4 ==
 0 &&
 x_11 ==
 0 &&
 r &&
 x_42.toList ==
 [(ByteArray.mk
 #[116,
 101,
 120,
 116,
 32,
 111,
 102,
 32,
 121]).get!
 0,
 (ByteArray.mk
 #[116,
 101,
 120,
 116,
 32,
 111,
 102,
 32,
 121]).get!
 1,
 (ByteArray.mk
 #[116,
 101,
 120,
 116,
 32,
 111,
 102,
 32,
 121]).get!
 2,
 (ByteArray.mk
 #[116,
 101,
 120,
 116,
 32,
 111,
 102,
 32,
 121]).get!
 3,
 (ByteArray.mk
 #[116,
 101,
 120,
 116,
 32,
 111,
 102,
 32,
 121]).get!
 4,
 (ByteArray.mk
 #[116,
 101,
 120,
 116,
 32,
 111,
 102,
 32,
 121]).get!
 5,
 (ByteArray.mk
 #[116,
 101,
 120,
 116,
 32,
 111,
 102,
 32,
 121]).get!
 6,
 (ByteArray.mk
 #[116,
 101,
 120,
 116,
 32,
 111,
 102,
 32,
 121]).get!
 7,
 (ByteArray.mk
 #[116,
 101,
 120,
 116,
 32,
 111,
 102,
 32,
 121]).get!
 8] &&
 r_1)
 (EqP
 Tryz.prog
 32
 (Value.agg
 (arrI IntKind.u8 f_12 32 0).toArray)
 (Value.agg
 #[Value.int
 IntKind.u8
 7,
 Value.int
 IntKind.u8
 0,
 Value.int
 IntKind.u8
 0,
 Value.int
 IntKind.u8
 0,
 Value.int
 IntKind.u8
 0,
 Value.int
 IntKind.u8
 0,
 Value.int
 IntKind.u8
 0,
 Value.int
 IntKind.u8
 0,
 Value.int
 IntKind.u8
 0,
 Value.int
 IntKind.u8
 0,
 Value.int
 IntKind.u8
 0,
 Value.int
 IntKind.u8
 0,
 Value.int
 IntKind.u8
 0,
 Value.int
 IntKind.u8
 0,
 Value.int
 IntKind.u8
 0,
 Value.int
 IntKind.u8
 0,
 Value.int
 IntKind.u8
 0,
 Value.int
 IntKind.u8
 0,
 Value.int
 IntKind.u8
 0,
 Value.int
 IntKind.u8
 0,
 Value.int
 IntKind.u8
 0,
 Value.int
 IntKind.u8
 0,
 Value.int
 IntKind.u8
 0,
 Value.int
 IntKind.u8
 0,
 Value.int
 IntKind.u8
 0,
 Value.int
 IntKind.u8
 0,
 Value.int
 IntKind.u8
 0,
 Value.int
 IntKind.u8
 0,
 Value.int
 IntKind.u8
 0,
 Value.int
 IntKind.u8
 0,
 Value.int
 IntKind.u8
 0,
 Value.int
 IntKind.u8
 0])
 r_2) ∧
 ∃ (x_43 :
 Int),
 gimp
 (x_2 ==
 0 &&
 x_3 ==
 0 &&
 x_4 ==
 0 &&
 x_11 ==
 0 &&
 r &&
 x_42.toList ==
 [(ByteArray.mk
 #[116,
 101,
 120,
 116,
 32,
 111,
 102,
 32,
 121]).get!
 0,
 (ByteArray.mk
 #[116,
 101,
 120,
 116,
 32,
 111,
 102,
 32,
 121]).get!
 1,
 (ByteArray.mk
 #[116,
 101,
 120,
 116,
 32,
 111,
 102,
 32,
 121]).get!
 2,
 (ByteArray.mk
 #[116,
 101,
 120,
 116,
 32,
 111,
 102,
 32,
 121]).get!
 3,
 (ByteArray.mk
 #[116,
 101,
 120,
 116,
 32,
 111,
 102,
 32,
 121]).get!
 4,
 (ByteArray.mk
 #[116,
 101,
 120,
 116,
 32,
 111,
 102,
 32,
 121]).get!
 5,
 (ByteArray.mk
 #[116,
 101,
 120,
 116,
 32,
 111,
 102,
 32,
 121]).get!
 6,
 (ByteArray.mk
 #[116,
 101,
 120,
 116,
 32,
 111,
 102,
 32,
 121]).get!
 7,
 (ByteArray.mk
 #[116,
 101,
 120,
 116,
 32,
 111,
 102,
 32,
 121]).get!
 8] &&
 r_1 &&
 r_2 &&
 x_33 ==
 25 &&
 x_41 ==
 0)
 (∀
 (W :
 World),
 Loc
 w.heap.size
 [Blk.mk
 n_11
 42
 ([Value.int
 IntKind.i64
 x_34] ++ arrI IntKind.u8 f_8 32 0 ++ ([Value.string
 x_35,
 Value.int
 IntKind.i64
 x_36,
 Value.bool
 x_37,
 Value.slice
 p_1
 n_10
 c_1,
 Value.string
 x_38,
 Value.int
 IntKind.i64
 x_39,
 Value.int
 IntKind.i64
 x_40] ++ arrI IntKind.u8 f_9 16 0))
 (wrM
 2),
 Blk.mk
 n_9
 42
 ([Value.int
 IntKind.i64
 x_26] ++ arrI IntKind.u8 f_6 32 0 ++ ([Value.string
 x_27,
 Value.int
 IntKind.i64
 x_28,
 Value.bool
 x_29,
 Value.slice
 p
 n_8
 c,
 Value.string
 x_30,
 Value.int
 IntKind.i64
 x_31,
 Value.int
 IntKind.i64
 x_32] ++ arrI IntKind.u8 f_7 16 0))
 0,
 Blk.mk
 n_7
 48
 (arrI IntKind.u8 f_4 32 0 ++ ([Value.string
 x_19,
 Value.string
 x_20,
 Value.int
 IntKind.i64
 x_21,
 Value.int
 IntKind.i64
 x_22] ++ arrI IntKind.u8 f_5 16 0 ++ [Value.int
 IntKind.i64
 x_23,
 Value.string
 x_24]))
 0,
 Blk.mk
 n_6
 48
 (arrI IntKind.u8 f_2 32 0 ++ ([Value.string
 x_12,
 Value.string
 x_13,
 Value.int
 IntKind.i64
 x_14,
 Value.int
 IntKind.i64
 x_15] ++ arrI IntKind.u8 f_3 16 0 ++ [Value.int
 IntKind.i64
 x_16,
 Value.string
 x_17]))
 0,
 Blk.mk
 n_5
 48
 (arrI IntKind.u8 f 32 0 ++ ([Value.string
 x_5,
 Value.string
 x_6,
 Value.int
 IntKind.i64
 x_7,
 Value.int
 IntKind.i64
 x_8] ++ arrI IntKind.u8 f_1 16 0 ++ [Value.int
 IntKind.i64
 x_9,
 Value.string
 x_10]))
 0,
 Blk.mk
 n_3
 32
 [Value.int
 IntKind.u8
 3,
 Value.int
 IntKind.u8
 0,
 Value.int
 IntKind.u8
 0,
 Value.int
 IntKind.u8
 0,
 Value.int
 IntKind.u8
 0,
 Value.int
 IntKind.u8
 0,
 Value.int
 IntKind.u8
 0,
 Value.int
 IntKind.u8
 0,
 Value.int
 IntKind.u8
 0,
 Value.int
 IntKind.u8
 0,
 Value.int
 IntKind.u8
 0,
 Value.int
 IntKind.u8
 0,
 Value.int
 IntKind.u8
 0,
 Value.int
 IntKind.u8
 0,
 Value.int
 IntKind.u8
 0,
 Value.int
 IntKind.u8
 0,
 Value.int
 IntKind.u8
 0,
 Value.int
 IntKind.u8
 0,
 Value.int
 IntKind.u8
 0,
 Value.int
 IntKind.u8
 0,
 Value.int
 IntKind.u8
 0,
 Value.int
 IntKind.u8
 0,
 Value.int
 IntKind.u8
 0,
 Value.int
 IntKind.u8
 0,
 Value.int
 IntKind.u8
 0,
 Value.int
 IntKind.u8
 0,
 Value.int
 IntKind.u8
 0,
 Value.int
 IntKind.u8
 0,
 Value.int
 IntKind.u8
 0,
 Value.int
 IntKind.u8
 0,
 Value.int
 IntKind.u8
 0,
 Value.int
 IntKind.u8
 0]
 0,
 Blk.mk
 n_2
 32
 [Value.int
 IntKind.u8
 7,
 Value.int
 IntKind.u8
 0,
 Value.int
 IntKind.u8
 0,
 Value.int
 IntKind.u8
 0,
 Value.int
 IntKind.u8
 0,
 Value.int
 IntKind.u8
 0,
 Value.int
 IntKind.u8
 0,
 Value.int
 IntKind.u8
 0,
 Value.int
 IntKind.u8
 0,
 Value.int
 IntKind.u8
 0,
 Value.int
 IntKind.u8
 0,
 Value.int
 IntKind.u8
 0,
 Value.int
 IntKind.u8
 0,
 Value.int
 IntKind.u8
 0,
 Value.int
 IntKind.u8
 0,
 Value.int
 IntKind.u8
 0,
 Value.int
 IntKind.u8
 0,
 Value.int
 IntKind.u8
 0,
 Value.int
 IntKind.u8
 0,
 Value.int
 IntKind.u8
 0,
 Value.int
 IntKind.u8
 0,
 Value.int
 IntKind.u8
 0,
 Value.int
 IntKind.u8
 0,
 Value.int
 IntKind.u8
 0,
 Value.int
 IntKind.u8
 0,
 Value.int
 IntKind.u8
 0,
 Value.int
 IntKind.u8
 0,
 Value.int
 IntKind.u8
 0,
 Value.int
 IntKind.u8
 0,
 Value.int
 IntKind.u8
 0,
 Value.int
 IntKind.u8
 0,
 Value.int
 IntKind.u8
 0]
 0,
 Blk.mk
 n_1
 45
 [Value.int
 IntKind.u8
 2,
 Value.int
 IntKind.u8
 0,
 Value.int
 IntKind.u8
 0,
 Value.int
 IntKind.u8
 0,
 Value.int
 IntKind.u8
 0,
 Value.int
 IntKind.u8
 0,
 Value.int
 IntKind.u8
 0,
 Value.int
 IntKind.u8
 0,
 Value.int
 IntKind.u8
 0,
 Value.int
 IntKind.u8
 0,
 Value.int
 IntKind.u8
 0,
 Value.int
 IntKind.u8
 0,
 Value.int
 IntKind.u8
 0,
 Value.int
 IntKind.u8
 0,
 Value.int
 IntKind.u8
 0,
 Value.int
 IntKind.u8
 0]
 0,
 Blk.mk
 n
 45
 [Value.int
 IntKind.u8
 1,
 Value.int
 IntKind.u8
 0,
 Value.int
 IntKind.u8
 0,
 Value.int
 IntKind.u8
 0,
 Value.int
 IntKind.u8
 0,
 Value.int
 IntKind.u8
 0,
 Value.int
 IntKind.u8
 0,
 Value.int
 IntKind.u8
 0,
 Value.int
 IntKind.u8
 0,
 Value.int
 IntKind.u8
 0,
 Value.int
 IntKind.u8
 0,
 Value.int
 IntKind.u8
 0,
 Value.int
 IntKind.u8
 0,
 Value.int
 IntKind.u8
 0,
 Value.int
 IntKind.u8
 0,
 Value.int
 IntKind.u8
 0]
 0]
 w'
 W →
 W.cell?
 (Addr.mk
 n_11
 0
 none) =
 some
 (Value.int
 IntKind.i64
 x_43)) ∧
 ∃ (f_13
 :
 Nat →
 Int),
 gimp
 (x_2 ==
 0 &&
 x_3 ==
 0 &&
 x_4 ==
 0 &&
 x_11 ==
 0 &&
 r &&
 x_42.toList ==
 [(ByteArray.mk
 #[116,
 101,
 120,
 116,
 32,
 111,
 102,
 32,
 121]).get!
 0,
 (ByteArray.mk
 #[116,
 101,
 120,
 116,
 32,
 111,
 102,
 32,
 121]).get!
 (0 +
 1),
 (ByteArray.mk
 #[116,
 101,
 120,
 116,
 32,
 111,
 102,
 32,
 121]).get!
 2,
 (ByteArray.mk
 #[116,
 101,
 120,
 116,
 32,
 111,
 102,
 32,
 121]).get!
 3,
 (ByteArray.mk
 #[116,
 101,
 120,
 116,
 32,
 111,
 102,
 32,
 121]).get!
 4,
 (ByteArray.mk
 #[116,
 101,
 120,
 116,
 32,
 111,
 102,
 32,
 121]).get!
 5,
 (ByteArray.mk
 #[116,
 101,
 120,
 116,
 32,
 111,
 102,
 32,
 121]).get!
 6,
 (ByteArray.mk
 #[116,
 101,
 120,
 116,
 32,
 111,
 102,
 32,
 121]).get!
 7,
 (ByteArray.mk
 #[116,
 101,
 120,
 116,
 32,
 111,
 102,
 32,
 121]).get!
 8] &&
 r_1 &&
 r_2 &&
 x_33 ==
 25 &&
 x_41 ==
 0 &&
 x_43 ==
 2)
 (∀
 (W :
 World),
 Loc
 w.heap.size
 [Blk.mk
 n_11
 42
 ([Value.int
 IntKind.i64
 x_34] ++ arrI IntKind.u8 f_8 32 0 ++ ([Value.string
 x_35,
 Value.int
 IntKind.i64
 x_36,
 Value.bool
 x_37,
 Value.slice
 p_1
 n_10
 c_1,
 Value.string
 x_38,
 Value.int
 IntKind.i64
 x_39,
 Value.int
 IntKind.i64
 x_40] ++ arrI IntKind.u8 f_9 16 0))
 (wrM
 2),
 Blk.mk
 n_9
 42
 ([Value.int
 IntKind.i64
 x_26] ++ arrI IntKind.u8 f_6 32 0 ++ ([Value.string
 x_27,
 Value.int
 IntKind.i64
 x_28,
 Value.bool
 x_29,
 Value.slice
 p
 n_8
 c,
 Value.string
 x_30,
 Value.int
 IntKind.i64
 x_31,
 Value.int
 IntKind.i64
 x_32] ++ arrI IntKind.u8 f_7 16 0))
 0,
 Blk.mk
 n_7
 48
 (arrI IntKind.u8 f_4 32 0 ++ ([Value.string
 x_19,
 Value.string
 x_20,
 Value.int
 IntKind.i64
 x_21,
 Value.int
 IntKind.i64
 x_22] ++ arrI IntKind.u8 f_5 16 0 ++ [Value.int
 IntKind.i64
 x_23,
 Value.string
 x_24]))
 0,
 Blk.mk
 n_6
 48
 (arrI IntKind.u8 f_2 32 0 ++ ([Value.string
 x_12,
 Value.string
 x_13,
 Value.int
 IntKind.i64
 x_14,
 Value.int
 IntKind.i64
 x_15] ++ arrI IntKind.u8 f_3 16 0 ++ [Value.int
 IntKind.i64
 x_16,
 Value.string
 x_17]))
 0,
 Blk.mk
 n_5
 48
 (arrI IntKind.u8 f 32 0 ++ ([Value.string
 x_5,
 Value.string
 x_6,
 Value.int
 IntKind.i64
 x_7,
 Value.int
 IntKind.i64
 x_8] ++ arrI IntKind.u8 f_1 16 0 ++ [Value.int
 IntKind.i64
 x_9,
 Value.string
 x_10]))
 0,
 Blk.mk
 n_3
 32
 [Value.int
 IntKind.u8
 3,
 Value.int
 IntKind.u8
 0,
 Value.int
 IntKind.u8
 0,
 Value.int
 IntKind.u8
 0,
 Value.int
 IntKind.u8
 0,
 Value.int
 IntKind.u8
 0,
 Value.int
 IntKind.u8
 0,
 Value.int
 IntKind.u8
 0,
 Value.int
 IntKind.u8
 0,
 Value.int
 IntKind.u8
 0,
 Value.int
 IntKind.u8
 0,
 Value.int
 IntKind.u8
 0,
 Value.int
 IntKind.u8
 0,
 Value.int
 IntKind.u8
 0,
 Value.int
 IntKind.u8
 0,
 Value.int
 IntKind.u8
 0,
 Value.int
 IntKind.u8
 0,
 Value.int
 IntKind.u8
 0,
 Value.int
 IntKind.u8
 0,
 Value.int
 IntKind.u8
 0,
 Value.int
 IntKind.u8
 0,
 Value.int
 IntKind.u8
 0,
 Value.int
 IntKind.u8
 0,
 Value.int
 IntKind.u8
 0,
 Value.int
 IntKind.u8
 0,
 Value.int
 IntKind.u8
 0,
 Value.int
 IntKind.u8
 0,
 Value.int
 IntKind.u8
 0,
 Value.int
 IntKind.u8
 0,
 Value.int
 IntKind.u8
 0,
 Value.int
 IntKind.u8
 0,
 Value.int
 IntKind.u8
 0]
 0,
 Blk.mk
 n_2
 32
 [Value.int
 IntKind.u8
 7,
 Value.int
 IntKind.u8
 0,
 Value.int
 IntKind.u8
 0,
 Value.int
 IntKind.u8
 0,
 Value.int
 IntKind.u8
 0,
 Value.int
 IntKind.u8
 0,
 Value.int
 IntKind.u8
 0,
 Value.int
 IntKind.u8
 0,
 Value.int
 IntKind.u8
 0,
 Value.int
 IntKind.u8
 0,
 Value.int
 IntKind.u8
 0,
 Value.int
 IntKind.u8
 0,
 Value.int
 IntKind.u8
 0,
 Value.int
 IntKind.u8
 0,
 Value.int
 IntKind.u8
 0,
 Value.int
 IntKind.u8
 0,
 Value.int
 IntKind.u8
 0,
 Value.int
 IntKind.u8
 0,
 Value.int
 IntKind.u8
 0,
 Value.int
 IntKind.u8
 0,
 Value.int
 IntKind.u8
 0,
 Value.int
 IntKind.u8
 0,
 Value.int
 IntKind.u8
 0,
 Value.int
 IntKind.u8
 0,
 Value.int
 IntKind.u8
 0,
 Value.int
 IntKind.u8
 0,
 Value.int
 IntKind.u8
 0,
 Value.int
 IntKind.u8
 0,
 Value.int
 IntKind.u8
 0,
 Value.int
 IntKind.u8
 0,
 Value.int
 IntKind.u8
 0,
 Value.int
 IntKind.u8
 0]
 0,
 Blk.mk
 n_1
 45
 [Value.int
 IntKind.u8
 2,
 Value.int
 IntKind.u8
 0,
 Value.int
 IntKind.u8
 0,
 Value.int
 IntKind.u8
 0,
 Value.int
 IntKind.u8
 0,
 Value.int
 IntKind.u8
 0,
 Value.int
 IntKind.u8
 0,
 Value.int
 IntKind.u8
 0,
 Value.int
 IntKind.u8
 0,
 Value.int
 IntKind.u8
 0,
 Value.int
 IntKind.u8
 0,
 Value.int
 IntKind.u8
 0,
 Value.int
 IntKind.u8
 0,
 Value.int
 IntKind.u8
 0,
 Value.int
 IntKind.u8
 0,
 Value.int
 IntKind.u8
 0]
 0,
 Blk.mk
 n
 45
 [Value.int
 IntKind.u8
 1,
 Value.int
 IntKind.u8
 0,
 Value.int
 IntKind.u8
 0,
 Value.int
 IntKind.u8
 0,
 Value.int
 IntKind.u8
 0,
 Value.int
 IntKind.u8
 0,
 Value.int
 IntKind.u8
 0,
 Value.int
 IntKind.u8
 0,
 Value.int
 IntKind.u8
 0,
 Value.int
 IntKind.u8
 0,
 Value.int
 IntKind.u8
 0,
 Value.int
 IntKind.u8
 0,
 Value.int
 IntKind.u8
 0,
 Value.int
 IntKind.u8
 0,
 Value.int
 IntKind.u8
 0,
 Value.int
 IntKind.u8
 0]
 0]
 w'
 W →
 AtL
 W
 n_11
 (0 +
 1)
 (arrI IntKind.u8 f_13 32 0)) ∧
 ∃
 (r_3
 :
 Bool),
 gimp
 (x_2 ==
 0 &&
 x_3 ==
 0 &&
 x_4 ==
 0 &&
 x_11 ==
 0 &&
 r &&
 x_42.toList ==
 [(ByteArray.mk
 #[116,
 101,
 120,
 116,
 32,
 111,
 102,
 32,
 121]).get!
 0,
 (ByteArray.mk
 #[116,
 101,
 120,
 116,
 32,
 111,
 102,
 32,
 121]).get!
 (0 +
 1),
 (ByteArray.mk
 #[116,
 101,
 120,
 116,
 32,
 111,
 102,
 32,
 121]).get!
 2,
 (ByteArray.mk
 #[116,
 101,
 120,
 116,
 32,
 111,
 102,
 32,
 121]).get!
 3,
 (ByteArray.mk
 #[116,
 101,
 120,
 116,
 32,
 111,
 102,
 32,
 121]).get!
 4,
 (ByteArray.mk
 #[116,
 101,
 120,
 116,
 32,
 111,
 102,
 32,
 121]).get!
 5,
 (ByteArray.mk
 #[116,
 101,
 120,
 116,
 32,
 111,
 102,
 32,
 121]).get!
 6,
 (ByteArray.mk
 #[116,
 101,
 120,
 116,
 32,
 111,
 102,
 32,
 121]).get!
 7,
 (ByteArray.mk
 #[116,
 101,
 120,
 116,
 32,
 111,
 102,
 32,
 121]).get!
 8] &&
 r_1 &&
 r_2 &&
 x_33 ==
 25 &&
 x_41 ==
 0 &&
 x_43 ==
 2)
 (EqP
 Tryz.prog
 32
 (Value.agg
 (arrI IntKind.u8 f_13 32 0).toArray)
 (Value.agg
 #[Value.int
 IntKind.u8
 3,
 Value.int
 IntKind.u8
 0,
 Value.int
 IntKind.u8
 0,
 Value.int
 IntKind.u8
 0,
 Value.int
 IntKind.u8
 0,
 Value.int
 IntKind.u8
 0,
 Value.int
 IntKind.u8
 0,
 Value.int
 IntKind.u8
 0,
 Value.int
 IntKind.u8
 0,
 Value.int
 IntKind.u8
 0,
 Value.int
 IntKind.u8
 0,
 Value.int
 IntKind.u8
 0,
 Value.int
 IntKind.u8
 0,
 Value.int
 IntKind.u8
 0,
 Value.int
 IntKind.u8
 0,
 Value.int
 IntKind.u8
 0,
 Value.int
 IntKind.u8
 0,
 Value.int
 IntKind.u8
 0,
 Value.int
 IntKind.u8
 0,
 Value.int
 IntKind.u8
 0,
 Value.int
 IntKind.u8
 0,
 Value.int
 IntKind.u8
 0,
 Value.int
 IntKind.u8
 0,
 Value.int
 IntKind.u8
 0,
 Value.int
 IntKind.u8
 0,
 Value.int
 IntKind.u8
 0,
 Value.int
 IntKind.u8
 0,
 Value.int
 IntKind.u8
 0,
 Value.int
 IntKind.u8
 0,
 Value.int
 IntKind.u8
 0,
 Value.int
 IntKind.u8
 0,
 Value.int
 IntKind.u8
 0])
 r_3) ∧
 ∃
 (x_44
 :
 ByteArray),
 gimp
 (x_2 ==
 0 &&
 x_3 ==
 0 &&
 x_4 ==
 0 &&
 x_11 ==
 0 &&
 r &&
 x_42.toList ==
 [(ByteArray.mk
 #[116,
 101,
 120,
 116,
 32,
 111,
 102,
 32,
 121]).get!
 0,
 (ByteArray.mk
 #[116,
 101,
 120,
 116,
 32,
 111,
 102,
 32,
 121]).get!
 (0 +
 1),
 (ByteArray.mk
 #[116,
 101,
 120,
 116,
 32,
 111,
 102,
 32,
 121]).get!
 2,
 (ByteArray.mk
 #[116,
 101,
 120,
 116,
 32,
 111,
 102,
 32,
 121]).get!
 3,
 (ByteArray.mk
 #[116,
 101,
 120,
 116,
 32,
 111,
 102,
 32,
 121]).get!
 4,
 (ByteArray.mk
 #[116,
 101,
 120,
 116,
 32,
 111,
 102,
 32,
 121]).get!
 5,
 (ByteArray.mk
 #[116,
 101,
 120,
 116,
 32,
 111,
 102,
 32,
 121]).get!
 6,
 (ByteArray.mk
 #[116,
 101,
 120,
 116,
 32,
 111,
 102,
 32,
 121]).get!
 7,
 (ByteArray.mk
 #[116,
 101,
 120,
 116,
 32,
 111,
 102,
 32,
 121]).get!
 8] &&
 r_1 &&
 r_2 &&
 x_33 ==
 25 &&
 x_41 ==
 0 &&
 x_43 ==
 2 &&
 r_3)
 (∀
 (W :
 World),
 Loc
 w.heap.size
 [Blk.mk
 n_11
 42
 ([Value.int
 IntKind.i64
 x_34] ++ arrI IntKind.u8 f_8 32 0 ++ ([Value.string
 x_35,
 Value.int
 IntKind.i64
 x_36,
 Value.bool
 x_37,
 Value.slice
 p_1
 n_10
 c_1,
 Value.string
 x_38,
 Value.int
 IntKind.i64
 x_39,
 Value.int
 IntKind.i64
 x_40] ++ arrI IntKind.u8 f_9 16 0))
 (wrM
 2),
 Blk.mk
 n_9
 42
 ([Value.int
 IntKind.i64
 x_26] ++ arrI IntKind.u8 f_6 32 0 ++ ([Value.string
 x_27,
 Value.int
 IntKind.i64
 x_28,
 Value.bool
 x_29,
 Value.slice
 p
 n_8
 c,
 Value.string
 x_30,
 Value.int
 IntKind.i64
 x_31,
 Value.int
 IntKind.i64
 x_32] ++ arrI IntKind.u8 f_7 16 0))
 0,
 Blk.mk
 n_7
 48
 (arrI IntKind.u8 f_4 32 0 ++ ([Value.string
 x_19,
 Value.string
 x_20,
 Value.int
 IntKind.i64
 x_21,
 Value.int
 IntKind.i64
 x_22] ++ arrI IntKind.u8 f_5 16 0 ++ [Value.int
 IntKind.i64
 x_23,
 Value.string
 x_24]))
 0,
 Blk.mk
 n_6
 48
 (arrI IntKind.u8 f_2 32 0 ++ ([Value.string
 x_12,
 Value.string
 x_13,
 Value.int
 IntKind.i64
 x_14,
 Value.int
 IntKind.i64
 x_15] ++ arrI IntKind.u8 f_3 16 0 ++ [Value.int
 IntKind.i64
 x_16,
 Value.string
 x_17]))
 0,
 Blk.mk
 n_5
 48
 (arrI IntKind.u8 f 32 0 ++ ([Value.string
 x_5,
 Value.string
 x_6,
 Value.int
 IntKind.i64
 x_7,
 Value.int
 IntKind.i64
 x_8] ++ arrI IntKind.u8 f_1 16 0 ++ [Value.int
 IntKind.i64
 x_9,
 Value.string
 x_10]))
 0,
 Blk.mk
 n_3
 32
 [Value.int
 IntKind.u8
 3,
 Value.int
 IntKind.u8
 0,
 Value.int
 IntKind.u8
 0,
 Value.int
 IntKind.u8
 0,
 Value.int
 IntKind.u8
 0,
 Value.int
 IntKind.u8
 0,
 Value.int
 IntKind.u8
 0,
 Value.int
 IntKind.u8
 0,
 Value.int
 IntKind.u8
 0,
 Value.int
 IntKind.u8
 0,
 Value.int
 IntKind.u8
 0,
 Value.int
 IntKind.u8
 0,
 Value.int
 IntKind.u8
 0,
 Value.int
 IntKind.u8
 0,
 Value.int
 IntKind.u8
 0,
 Value.int
 IntKind.u8
 0,
 Value.int
 IntKind.u8
 0,
 Value.int
 IntKind.u8
 0,
 Value.int
 IntKind.u8
 0,
 Value.int
 IntKind.u8
 0,
 Value.int
 IntKind.u8
 0,
 Value.int
 IntKind.u8
 0,
 Value.int
 IntKind.u8
 0,
 Value.int
 IntKind.u8
 0,
 Value.int
 IntKind.u8
 0,
 Value.int
 IntKind.u8
 0,
 Value.int
 IntKind.u8
 0,
 Value.int
 IntKind.u8
 0,
 Value.int
 IntKind.u8
 0,
 Value.int
 IntKind.u8
 0,
 Value.int
 IntKind.u8
 0,
 Value.int
 IntKind.u8
 0]
 0,
 Blk.mk
 n_2
 32
 [Value.int
 IntKind.u8
 7,
 Value.int
 IntKind.u8
 0,
 Value.int
 IntKind.u8
 0,
 Value.int
 IntKind.u8
 0,
 Value.int
 IntKind.u8
 0,
 Value.int
 IntKind.u8
 0,
 Value.int
 IntKind.u8
 0,
 Value.int
 IntKind.u8
 0,
 Value.int
 IntKind.u8
 0,
 Value.int
 IntKind.u8
 0,
 Value.int
 IntKind.u8
 0,
 Value.int
 IntKind.u8
 0,
 Value.int
 IntKind.u8
 0,
 Value.int
 IntKind.u8
 0,
 Value.int
 IntKind.u8
 0,
 Value.int
 IntKind.u8
 0,
 Value.int
 IntKind.u8
 0,
 Value.int
 IntKind.u8
 0,
 Value.int
 IntKind.u8
 0,
 Value.int
 IntKind.u8
 0,
 Value.int
 IntKind.u8
 0,
 Value.int
 IntKind.u8
 0,
 Value.int
 IntKind.u8
 0,
 Value.int
 IntKind.u8
 0,
 Value.int
 IntKind.u8
 0,
 Value.int
 IntKind.u8
 0,
 Value.int
 IntKind.u8
 0,
 Value.int
 IntKind.u8
 0,
 Value.int
 IntKind.u8
 0,
 Value.int
 IntKind.u8
 0,
 Value.int
 IntKind.u8
 0,
 Value.int
 IntKind.u8
 0]
 0,
 Blk.mk
 n_1
 45
 [Value.int
 IntKind.u8
 2,
 Value.int
 IntKind.u8
 0,
 Value.int
 IntKind.u8
 0,
 Value.int
 IntKind.u8
 0,
 Value.int
 IntKind.u8
 0,
 Value.int
 IntKind.u8
 0,
 Value.int
 IntKind.u8
 0,
 Value.int
 IntKind.u8
 0,
 Value.int
 IntKind.u8
 0,
 Value.int
 IntKind.u8
 0,
 Value.int
 IntKind.u8
 0,
 Value.int
 IntKind.u8
 0,
 Value.int
 IntKind.u8
 0,
 Value.int
 IntKind.u8
 0,
 Value.int
 IntKind.u8
 0,
 Value.int
 IntKind.u8
 0]
 0,
 Blk.mk
 n
 45
 [Value.int
 IntKind.u8
 1,
 Value.int
 IntKind.u8
 0,
 Value.int
 IntKind.u8
 0,
 Value.int
 IntKind.u8
 0,
 Value.int
 IntKind.u8
 0,
 Value.int
 IntKind.u8
 0,
 Value.int
 IntKind.u8
 0,
 Value.int
 IntKind.u8
 0,
 Value.int
 IntKind.u8
 0,
 Value.int
 IntKind.u8
 0,
 Value.int
 IntKind.u8
 0,
 Value.int
 IntKind.u8
 0,
 Value.int
 IntKind.u8
 0,
 Value.int
 IntKind.u8
 0,
 Value.int
 IntKind.u8
 0,
 Value.int
 IntKind.u8
 0]
 0]
 w'
 W →
 W.cell?
 (Addr.mk
 n_11
 (0 +
 33)
 none) =
 some
 (Value.string
 x_44)) ∧
 ∀
 (W :
 World),
 Loc
 w.heap.size
 [Blk.mk
 n_11
 42
 ([Value.int
 IntKind.i64
 x_34] ++ arrI IntKind.u8 f_8 32 0 ++ ([Value.string
 x_35,
 Value.int
 IntKind.i64
 x_36,
 Value.bool
 x_37,
 Value.slice
 p_1
 n_10
 c_1,
 Value.string
 x_38,
 Value.int
 IntKind.i64
 x_39,
 Value.int
 IntKind.i64
 x_40] ++ arrI IntKind.u8 f_9 16 0))
 (wrM
 2),
 Blk.mk
 n_9
 42
 ([Value.int
 IntKind.i64
 x_26] ++ arrI IntKind.u8 f_6 32 0 ++ ([Value.string
 x_27,
 Value.int
 IntKind.i64
 x_28,
 Value.bool
 x_29,
 Value.slice
 p
 n_8
 c,
 Value.string
 x_30,
 Value.int
 IntKind.i64
 x_31,
 Value.int
 IntKind.i64
 x_32] ++ arrI IntKind.u8 f_7 16 0))
 0,
 Blk.mk
 n_7
 48
 (arrI IntKind.u8 f_4 32 0 ++ ([Value.string
 x_19,
 Value.string
 x_20,
 Value.int
 IntKind.i64
 x_21,
 Value.int
 IntKind.i64
 x_22] ++ arrI IntKind.u8 f_5 16 0 ++ [Value.int
 IntKind.i64
 x_23,
 Value.string
 x_24]))
 0,
 Blk.mk
 n_6
 48
 (arrI IntKind.u8 f_2 32 0 ++ ([Value.string
 x_12,
 Value.string
 x_13,
 Value.int
 IntKind.i64
 x_14,
 Value.int
 IntKind.i64
 x_15] ++ arrI IntKind.u8 f_3 16 0 ++ [Value.int
 IntKind.i64
 x_16,
 Value.string
 x_17]))
 0,
 Blk.mk
 n_5
 48
 (arrI IntKind.u8 f 32 0 ++ ([Value.string
 x_5,
 Value.string
 x_6,
 Value.int
 IntKind.i64
 x_7,
 Value.int
 IntKind.i64
 x_8] ++ arrI IntKind.u8 f_1 16 0 ++ [Value.int
 IntKind.i64
 x_9,
 Value.string
 x_10]))
 0,
 Blk.mk
 n_3
 32
 [Value.int
 IntKind.u8
 3,
 Value.int
 IntKind.u8
 0,
 Value.int
 IntKind.u8
 0,
 Value.int
 IntKind.u8
 0,
 Value.int
 IntKind.u8
 0,
 Value.int
 IntKind.u8
 0,
 Value.int
 IntKind.u8
 0,
 Value.int
 IntKind.u8
 0,
 Value.int
 IntKind.u8
 0,
 Value.int
 IntKind.u8
 0,
 Value.int
 IntKind.u8
 0,
 Value.int
 IntKind.u8
 0,
 Value.int
 IntKind.u8
 0,
 Value.int
 IntKind.u8
 0,
 Value.int
 IntKind.u8
 0,
 Value.int
 IntKind.u8
 0,
 Value.int
 IntKind.u8
 0,
 Value.int
 IntKind.u8
 0,
 Value.int
 IntKind.u8
 0,
 Value.int
 IntKind.u8
 0,
 Value.int
 IntKind.u8
 0,
 Value.int
 IntKind.u8
 0,
 Value.int
 IntKind.u8
 0,
 Value.int
 IntKind.u8
 0,
 Value.int
 IntKind.u8
 0,
 Value.int
 IntKind.u8
 0,
 Value.int
 IntKind.u8
 0,
 Value.int
 IntKind.u8
 0,
 Value.int
 IntKind.u8
 0,
 Value.int
 IntKind.u8
 0,
 Value.int
 IntKind.u8
 0,
 Value.int
 IntKind.u8
 0]
 0,
 Blk.mk
 n_2
 32
 [Value.int
 IntKind.u8
 7,
 Value.int
 IntKind.u8
 0,
 Value.int
 IntKind.u8
 0,
 Value.int
 IntKind.u8
 0,
 Value.int
 IntKind.u8
 0,
 Value.int
 IntKind.u8
 0,
 Value.int
 IntKind.u8
 0,
 Value.int
 IntKind.u8
 0,
 Value.int
 IntKind.u8
 0,
 Value.int
 IntKind.u8
 0,
 Value.int
 IntKind.u8
 0,
 Value.int
 IntKind.u8
 0,
 Value.int
 IntKind.u8
 0,
 Value.int
 IntKind.u8
 0,
 Value.int
 IntKind.u8
 0,
 Value.int
 IntKind.u8
 0,
 Value.int
 IntKind.u8
 0,
 Value.int
 IntKind.u8
 0,
 Value.int
 IntKind.u8
 0,
 Value.int
 IntKind.u8
 0,
 Value.int
 IntKind.u8
 0,
 Value.int
 IntKind.u8
 0,
 Value.int
 IntKind.u8
 0,
 Value.int
 IntKind.u8
 0,
 Value.int
 IntKind.u8
 0,
 Value.int
 IntKind.u8
 0,
 Value.int
 IntKind.u8
 0,
 Value.int
 IntKind.u8
 0,
 Value.int
 IntKind.u8
 0,
 Value.int
 IntKind.u8
 0,
 Value.int
 IntKind.u8
 0,
 Value.int
 IntKind.u8
 0]
 0,
 Blk.mk
 n_1
 45
 [Value.int
 IntKind.u8
 2,
 Value.int
 IntKind.u8
 0,
 Value.int
 IntKind.u8
 0,
 Value.int
 IntKind.u8
 0,
 Value.int
 IntKind.u8
 0,
 Value.int
 IntKind.u8
 0,
 Value.int
 IntKind.u8
 0,
 Value.int
 IntKind.u8
 0,
 Value.int
 IntKind.u8
 0,
 Value.int
 IntKind.u8
 0,
 Value.int
 IntKind.u8
 0,
 Value.int
 IntKind.u8
 0,
 Value.int
 IntKind.u8
 0,
 Value.int
 IntKind.u8
 0,
 Value.int
 IntKind.u8
 0,
 Value.int
 IntKind.u8
 0]
 0,
 Blk.mk
 n
 45
 [Value.int
 IntKind.u8
 1,
 Value.int
 IntKind.u8
 0,
 Value.int
 IntKind.u8
 0,
 Value.int
 IntKind.u8
 0,
 Value.int
 IntKind.u8
 0,
 Value.int
 IntKind.u8
 0,
 Value.int
 IntKind.u8
 0,
 Value.int
 IntKind.u8
 0,
 Value.int
 IntKind.u8
 0,
 Value.int
 IntKind.u8
 0,
 Value.int
 IntKind.u8
 0,
 Value.int
 IntKind.u8
 0,
 Value.int
 IntKind.u8
 0,
 Value.int
 IntKind.u8
 0,
 Value.int
 IntKind.u8
 0,
 Value.int
 IntKind.u8
 0]
 0]
 w'
 W →
 bsp
 (x_2 ==
 0 &&
 x_3 ==
 0 &&
 x_4 ==
 0 &&
 x_11 ==
 0 &&
 r &&
 x_42.toList ==
 [(ByteArray.mk
 #[116,
 101,
 120,
 116,
 32,
 111,
 102,
 32,
 121]).get!
 0,
 (ByteArray.mk
 #[116,
 101,
 120,
 116,
 32,
 111,
 102,
 32,
 121]).get!
 (0 +
 1),
 (ByteArray.mk
 #[116,
 101,
 120,
 116,
 32,
 111,
 102,
 32,
 121]).get!
 2,
 (ByteArray.mk
 #[116,
 101,
 120,
 116,
 32,
 111,
 102,
 32,
 121]).get!
 3,
 (ByteArray.mk
 #[116,
 101,
 120,
 116,
 32,
 111,
 102,
 32,
 121]).get!
 4,
 (ByteArray.mk
 #[116,
 101,
 120,
 116,
 32,
 111,
 102,
 32,
 121]).get!
 5,
 (ByteArray.mk
 #[116,
 101,
 120,
 116,
 32,
 111,
 102,
 32,
 121]).get!
 6,
 (ByteArray.mk
 #[116,
 101,
 120,
 116,
 32,
 111,
 102,
 32,
 121]).get!
 7,
 (ByteArray.mk
 #[116,
 101,
 120,
 116,
 32,
 111,
 102,
 32,
 121]).get!
 8] &&
 r_1 &&
 r_2 &&
 x_33 ==
 25 &&
 x_41 ==
 0 &&
 x_43 ==
 2 &&
 r_3 &&
 x_44.toList ==
 [(ByteArray.mk
 #[103]).get!
 0])
 (CallsS
 Tryz.prog
 15
 #[Value.pointer
 x,
 Value.string
 (ByteArray.mk
 #[103]),
 Value.int
 IntKind.i64
 1]
 W
 fun
 (e :
 Ending)
 (w' :
 World) =>
 ∃
 (x
 :
 Int),
 e =
 Ending.returned
 (Value.int
 IntKind.i64
 x) ∧
 KeptL
 [n_11,
 n_9,
 n_7,
 n_6,
 n_5,
 n_3,
 n_2,
 n_1,
 n]
 W
 w' ∧
 R
 (Ending.returned
 (Value.bool
 (true &&
 x ==
 1)))
 w')
 (KeptL
 [n_11,
 n_9,
 n_7,
 n_6,
 n_5,
 n_3,
 n_2,
 n_1,
 n]
 W
 W ∧
 R
 (Ending.returned
 (Value.bool
 false))
 W))
theorem vc_lknown (w : World) (R : Ending → World → Prop) (h : VC_lknown w R) : Calls Tryz.prog 14 ([] : List Value).toArray w R := by
  have e : execR2 { P := Tryz.prog, loops := [], pur := pur1, tails := [], joins := [], boxes := [] } Tryz.f14.results.toList R (Tryz.f14.body.getD .skip) (initF [] (Tryz.f14.ntmps - ([] : List Value).length)) w = VC_lknown w R := by kernel_rfl
  have hb : Tryz.f14.body = some (Tryz.f14.body.getD .skip) := by kernel_rfl
  exact calls_of_exec2' (P := Tryz.prog) (fn := Tryz.f14) (c := Tryz.f14.body.getD .skip) (args := []) (w := w) (R := R) pur1_ok Tryz.func14 hb e h

end Go.Proofs.YtfacflbmlfbeeaaGreatDoor

/- Chapter 39: the example of the chapter holds; ModerationNew on worlds. The library's variable MaxLen holds a number. -/
namespace Go.Proofs.YtfacflbmlfbeeaaGreatDoor
open Go.RowKit Go.Sort Go.Maps

theorem kidEq {u v : Int} (hu : 0 ≤ u ∧ u ≤ 255) (hv : 0 ≤ v ∧ v ≤ 255) {r : Bool} (hr : r = decide (idI (k39 u) = idI (k39 v))) : EqP Tryz.prog 32 (.agg (arrI .u8 (k39 u) 32 0).toArray) (.agg (arrI .u8 (k39 v) 32 0).toArray) r := by
  rw [hr]; exact idEqF (k39_BY hu) (k39_BY hv)
set_option maxRecDepth 100000 in
set_option maxHeartbeats 8000000 in
theorem known_any (w : World) (hG : GW w) : Calls Tryz.prog 14 #[] w fun e w' => e = .returned (.bool true) ∧ K0 w w' := by
  have hw0 : 0 < w.heap.size := by
    obtain ⟨m, hm⟩ := hG
    unfold World.cell? at hm
    rcases Nat.lt_or_ge 0 w.heap.size with h | h
    · exact h
    · simp only [Array.getElem?_eq_none h] at hm
      cases hm
  refine vc_lknown w _ ⟨(mnew_any 5 14 w hw0).mono fun e w1 hN => ?_⟩
  rcases hN with ⟨h, _⟩ | ⟨_, b, mb, eb, he, hq, k1, gb, gm, ge⟩
  · exact absurd h (by decide)
  refine ⟨_, _, he, .of_k0 k1, bsp_intro (fun h => by cases h) (fun _ n n1 n2 n3 n4 W hW => ?_)⟩
  have k2 : K0 w1 W := hW.kk rfl
  have fresh : ∀ {wa wb : World}, K0 w wa → Kp (QB b mb eb) wa wb → K0 w wb := fun ka hk => ka.fresh hk (fun j hj e => by rcases e with e | e | e <;> omega)
  have hG' : ∀ {wa : World}, K0 w wa → GW wa := fun k => hG.kp k (fun h => h)
  have c0 := hW.cells 0 rfl
  have c1 := hW.cells 1 rfl
  have c2 := hW.cells 2 rfl
  have c3 := hW.cells 3 rfl
  have c4 := hW.cells 4 rfl
  have kT2 := k1.trans k2
  have hR : RowA auC 16 W (some ⟨n4, 0, none⟩) [k39 2, k39 1] := fun k y hy => by
    match k, hy with
    | 0, hy => cases hy; exact ⟨n4, 0, rfl, AtL_block c0 rfl⟩
    | 1, hy => cases hy; exact ⟨n4, 0, rfl, AtL_block c0 rfl⟩
    | k + 2, hy => cases hy
  have q2 := hq.k0 k2
  have hb1 := block_lt hq.st
  have hm1 := hq.mm.lt
  have he1 := hq.me.lt
  have kept : ∀ {wa wb : World} {ns : List Nat}, Kp (QB b mb eb) wa wb → (∀ z ∈ ns, w1.heap.size ≤ z) → KeptL ns wa wb := fun hk hns => .of_kp hk fun z hz e => by
    have := hns z hz
    rcases e with e | e | e <;> omega
  have g0 : w1.heap.size ≤ n4 := hW.fresh 0 rfl rfl
  have g1 : w1.heap.size ≤ n3 := hW.fresh 1 rfl rfl
  have g2 : w1.heap.size ≤ n2 := hW.fresh 2 rfl rfl
  have g3 : w1.heap.size ≤ n1 := hW.fresh 3 rfl rfl
  have g4 : w1.heap.size ≤ n := hW.fresh 4 rfl rfl
  have gN : ∀ z ∈ [n3, n2, n1, n], w1.heap.size ≤ z := fun z hz => by
    simp only [List.mem_cons, List.not_mem_nil, or_false] at hz
    rcases hz with rfl | rfl | rfl | rfl <;> assumption
  have cons : ∀ {z : Nat} {ns : List Nat}, w1.heap.size ≤ z → (∀ y ∈ ns, w1.heap.size ≤ y) → ∀ y ∈ z :: ns, w1.heap.size ≤ y := fun hz hns y hy => by
    rcases List.mem_cons.1 hy with rfl | h
    · exact hz
    · exact hns y h
  have b7 : BY (k39 7) := k39_BY (by decide)
  have b3 : BY (k39 3) := k39_BY (by decide)
  have b1 : BY (k39 1) := k39_BY (by decide)
  have b2 : BY (k39 2) := k39_BY (by decide)
  have gk : kG.size ≤ 1073741824 := by decide
  refine ⟨(setMods_any q2 kG [k39 2, k39 1] (some ⟨n4, 0, none⟩) 2 hR (fun g o e => by cases e; exact block_lt c0) (fun m hm => (kml m hm).1) (hG' kT2)).mono fun e w3 ⟨he, ⟨q', hS, hq3⟩, k3⟩ => ?_⟩
  have hok3 := kq0_ok.setR kml hS
  obtain ⟨x, hx, rfl⟩ := kset_iff hS
  rw [k_set] at he
  refine ⟨_, he, kept k3 gN, ?_⟩
  have kT3 := fresh kT2 k3
  refine ⟨(submit_any hq3 hok3 (k39 7) b7 kG kX 10 (hG' kT3)).mono fun e w4 ⟨he, hq4, k4⟩ => ?_⟩
  have hok4 := hok3.sub (g := kG) (tx := kX) (now := 10) ⟨b7, k39_NZ (by decide) 7⟩
  rw [k_sub1 hx] at he
  rw [k_subQ1 hx] at hq4 hok4
  refine ⟨_, he, kept k4 gN, ?_⟩
  have kT4 := fresh kT3 k4
  refine ⟨(submit_any hq4 hok4 (k39 3) b3 kG kY 5 (hG' kT4)).mono fun e w5 ⟨he, hq5, k5⟩ => ?_⟩
  have hok5 := hok4.sub (g := kG) (tx := kY) (now := 5) ⟨b3, k39_NZ (by decide) 3⟩
  rw [k_sub2 hx] at he
  rw [k_subQ2 hx] at hq5 hok5
  refine ⟨_, he, kept k5 gN, ?_⟩
  have kT5 := fresh kT4 k5
  refine ⟨(claim_any hq5 hok5 (show (2 : Nat) ≤ 1000000 by decide) kG gk (k39 1) b1 20 (hG' kT5)).mono fun e w6 hC => ?_⟩
  have hC1 := k_clm hx 1 (.inl rfl) (es := [(kx, kex), (ky, key_)]) (by rw [k_sel1]; decide)
  rcases hC with ⟨h, _⟩ | ⟨_, s, hs, hmin, he, hq6, k6⟩
  · exact absurd hC1 h
  rw [k_sel1] at hs hmin
  obtain rfl := k_min hs hmin
  have hok6 := hok5.clm hq5.dis (P := clP kG (auI (k39 1)) 20) (x := key_.s) (a := k39 1) (now := 20) (by show key_.s ∈ isSel (kq x 2 [(kx, kex), (ky, key_)]) kG (auI (k39 1)) 20; rw [k_sel1]; exact hs) ⟨b1, k39_NZ (by decide) 1⟩ ⟨by decide, by decide⟩
  have e6 : ({ kq x 2 [(kx, kex), (ky, key_)] with es := aset (kq x 2 [(kx, kex), (ky, key_)]).es key_.s.ky ⟨key_.s, true, k39 1, 20⟩ } : Qu) = kq x 2 [(kx, kex), (ky, key2)] := by
    show kq x 2 (aset [(kx, kex), (ky, key_)] ky key2) = _
    rw [k_set1]
  rw [e6] at hq6 hok6
  refine ⟨_, _, _, _, _, _, _, _, _, he, kept k6 gN, fun n5 W7 hW7 => ?_⟩
  have kT6 := fresh kT5 k6
  have k7 : K0 w6 W7 := hW7.kk rfl
  have kT7 := kT6.trans k7
  have gn5 : w1.heap.size ≤ n5 := by
    have h1 : w6.heap.size ≤ n5 := hW7.fresh 0 rfl rfl
    have h2 := k2.size
    have h3 := k3.size
    have h4 := k4.size
    have h5 := k5.size
    have h6 := k6.size
    omega
  have gN5 := cons gn5 gN
  have hq7 := hq6.k0 k7
  refine ⟨(claim_any hq7 hok6 (show (2 : Nat) ≤ 1000000 by decide) kG gk (k39 1) b1 20 (hG' kT7)).mono fun e w8 hC => ?_⟩
  have hC2 := k_clm hx 1 (.inl rfl) (es := [(kx, kex), (ky, key2)]) (by rw [k_sel2]; decide)
  rcases hC with ⟨h, _⟩ | ⟨_, s, hs, hmin, he, hq8, k8⟩
  · exact absurd hC2 h
  rw [k_sel2] at hs hmin
  obtain rfl := k_min hs hmin
  have hok8 := hok6.clm hq7.dis (P := clP kG (auI (k39 1)) 20) (x := key_.s) (a := k39 1) (now := 20) (by show key_.s ∈ isSel (kq x 2 [(kx, kex), (ky, key2)]) kG (auI (k39 1)) 20; rw [k_sel2]; exact hs) ⟨b1, k39_NZ (by decide) 1⟩ ⟨by decide, by decide⟩
  have e8 : ({ kq x 2 [(kx, kex), (ky, key2)] with es := aset (kq x 2 [(kx, kex), (ky, key2)]).es key_.s.ky ⟨key_.s, true, k39 1, 20⟩ } : Qu) = kq x 2 [(kx, kex), (ky, key2)] := by
    show kq x 2 (aset [(kx, kex), (ky, key2)] ky key2) = _
    rw [k_set1]
  rw [e8] at hq8 hok8
  refine ⟨_, _, _, _, _, _, _, _, _, he, kept k8 gN5, fun n6 W9 hW9 => ?_⟩
  have kT8 := fresh kT7 k8
  have k9 : K0 w8 W9 := hW9.kk rfl
  have kT9 := kT8.trans k9
  have gn6 : w1.heap.size ≤ n6 := by
    have h1 : w8.heap.size ≤ n6 := hW9.fresh 0 rfl rfl
    have h2 := k2.size
    have h3 := k3.size
    have h4 := k4.size
    have h5 := k5.size
    have h6 := k6.size
    have h7 := k7.size
    have h8 := k8.size
    omega
  have gN6 := cons gn6 gN5
  have hq9 := hq8.k0 k9
  refine ⟨(claim_any hq9 hok8 (show (2 : Nat) ≤ 1000000 by decide) kG gk (k39 2) b2 20 (hG' kT9)).mono fun e w10 hC => ?_⟩
  have hC3 := k_clm hx 2 (.inr rfl) (es := [(kx, kex), (ky, key2)]) (by rw [k_sel3]; decide)
  rcases hC with ⟨h, _⟩ | ⟨_, s, hs, hmin, he, hq10, k10⟩
  · exact absurd hC3 h
  rw [k_sel3] at hs hmin
  obtain rfl : s = kex.s := by simpa using hs
  have hok10 := hok8.clm hq9.dis (P := clP kG (auI (k39 2)) 20) (x := kex.s) (a := k39 2) (now := 20) (by show kex.s ∈ isSel (kq x 2 [(kx, kex), (ky, key2)]) kG (auI (k39 2)) 20; rw [k_sel3]; exact hs) ⟨b2, k39_NZ (by decide) 2⟩ ⟨by decide, by decide⟩
  have e10 : ({ kq x 2 [(kx, kex), (ky, key2)] with es := aset (kq x 2 [(kx, kex), (ky, key2)]).es kex.s.ky ⟨kex.s, true, k39 2, 20⟩ } : Qu) = kq x 2 [(kx, kex2), (ky, key2)] := by
    show kq x 2 (aset [(kx, kex), (ky, key2)] kx kex2) = _
    rw [k_set2]
  rw [e10] at hq10 hok10
  refine ⟨_, _, _, _, _, _, _, _, _, he, kept k10 gN6, fun n7 W11 hW11 => ?_⟩
  have kT10 := fresh kT9 k10
  have k11 : K0 w10 W11 := hW11.kk rfl
  have kT11 := kT10.trans k11
  have gn7 : w1.heap.size ≤ n7 := by
    have h1 : w10.heap.size ≤ n7 := hW11.fresh 0 rfl rfl
    have h2 := k2.size
    have h3 := k3.size
    have h4 := k4.size
    have h5 := k5.size
    have h6 := k6.size
    have h7 := k7.size
    have h8 := k8.size
    have h9 := k9.size
    have h10 := k10.size
    omega
  have gN7 := cons gn7 gN6
  have hq11 := hq10.k0 k11
  refine ⟨(approve_any hq11 hok10 (show (2 : Nat) ≤ 10000 by decide) (k39 3) b3 kG gk (k39 2) b2 79).mono fun e w12 ⟨he, hq12, k12⟩ => ?_⟩
  rw [k_ap79 hx] at he
  rw [k_apQ79 hx] at hq12
  refine ⟨0, fun _ => 0, ⟨#[]⟩, 0, false, none, 0, 0, ⟨#[]⟩, 0, 0, fun _ => 0, 25, he, kept k12 gN7, fun n9 W13 hW13 => ?_⟩
  have kT12 := fresh kT11 k12
  have k13 : K0 w12 W13 := hW13.kk rfl
  have kT13 := kT12.trans k13
  have gn9 : w1.heap.size ≤ n9 := by
    have h1 : w12.heap.size ≤ n9 := hW13.fresh 0 rfl rfl
    have h2 := k2.size
    have h3 := k3.size
    have h4 := k4.size
    have h5 := k5.size
    have h6 := k6.size
    have h7 := k7.size
    have h8 := k8.size
    have h9 := k9.size
    have h10 := k10.size
    have h11 := k11.size
    have h12 := k12.size
    omega
  have gN9 := cons gn9 gN7
  have hq13 := hq12.k0 k13
  refine ⟨(approve_any hq13 hok10 (show (2 : Nat) ≤ 10000 by decide) (k39 3) b3 kG gk (k39 2) b2 80).mono fun e w14 ⟨he, hq14, k14⟩ => ?_⟩
  have hok14 : (apQ (kq x 2 [(kx, kex2), (ky, key2)]) (k39 3) kG (k39 2) 80 1 ⟨#[]⟩).OK := by
    unfold apQ
    rw [if_neg (by decide)]
    exact hok10.dec ⟨b2, k39_NZ (by decide) 2⟩ ⟨by decide, by decide⟩ ⟨by decide, by decide⟩ (by decide)
  rw [k_ap80 hx] at he
  rw [k_apQ80 hx] at hq14 hok14
  have kT14 := fresh kT13 k14
  refine ⟨2, k39 3, kG, 0, false, none, 0, 0, ⟨#[]⟩, 0, 0, fun _ => 0, 0, he, kept k14 gN9, fun n11 => ?_⟩
  refine ⟨k39 3, gimp_intro fun _ W15 hW15 => AtL_block (hW15.cells 4 rfl) rfl, true, gimp_intro fun _ => kidEq (by decide) (by decide) (by decide +kernel), kY, gimp_intro fun _ W15 hW15 => cell_at (hW15.cells 4 rfl) rfl,
    k39 3, gimp_intro fun _ W15 hW15 => AtL_block (hW15.cells 3 rfl) rfl, true, gimp_intro fun _ => kidEq (by decide) (by decide) (by decide +kernel),
    k39 7, gimp_intro fun _ W15 hW15 => AtL_block (hW15.cells 2 rfl) rfl, true, gimp_intro fun _ => kidEq (by decide) (by decide) (by decide +kernel),
    2, gimp_intro fun _ W15 hW15 => cell_at (hW15.cells 0 rfl) rfl, k39 3, gimp_intro fun _ W15 hW15 => AtL_block (hW15.cells 0 rfl) rfl, true, gimp_intro fun _ => kidEq (by decide) (by decide) (by decide +kernel), kG, gimp_intro fun _ W15 hW15 => cell_at (hW15.cells 0 rfl) rfl, fun W15 hW15 => ?_⟩
  have k15 : K0 w14 W15 := hW15.kk rfl
  have kT15 := kT14.trans k15
  refine bsp_intro (fun _ => ?_) (fun h => absurd h (by decide +kernel))
  refine ⟨(count_any (hq14.k0 k15) hok14 (show (2 : Nat) ≤ 1000000 by decide) kG 1 (hG' kT15)).mono fun e w16 ⟨he, k16⟩ => ⟨_, he, .of_k0 k16, ?_, kT15.trans k16⟩⟩
  show Ending.returned (.bool (true && (((selE (lsP kG 1) [(kx, kex2), (ky, key3)]).length : Nat) : Int) == 1)) = _
  rw [k_cnt]
  rfl

/-! ### New, Moderators -/
end Go.Proofs.YtfacflbmlfbeeaaGreatDoor
