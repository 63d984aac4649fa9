/- The formulas of functions by the symbolic evaluator, and that each gives the call's contract. Written by a program (gen.py). No condition. -/
import Derived.Test.YtfacflbmlfbeeaaGreatDoorProg
import Derived.Test.YtfacflbmlfbeeaaGreatDoorZ02
import Derived.Test.YtfacflbmlfbeeaaGreatDoorZ04
import Derived.Test.YtfacflbmlfbeeaaGreatDoorZ03
import Derived.KernelRfl
import Derived.Test.YtfacflbmlfbeeaaGreatDoorZ06
namespace Go.Proofs.YtfacflbmlfbeeaaGreatDoor
set_option maxRecDepth 100000
set_option linter.unusedVariables false

def VC_claim (b : Nat) (s : ByteArray) (a : Nat → Int) (now : Int) (w : World) (R : Ending → World → Prop) : Prop :=
 ∀ (n n_1 n_2 n_3 : Nat) (W : World),
 Loc w.heap.size
 [Blk.mk n_3 48
 [Value.int IntKind.u8 0, Value.int IntKind.u8 0, Value.int IntKind.u8 0, Value.int IntKind.u8 0,
 Value.int IntKind.u8 0, Value.int IntKind.u8 0, Value.int IntKind.u8 0, Value.int IntKind.u8 0,
 Value.int IntKind.u8 0, Value.int IntKind.u8 0, Value.int IntKind.u8 0, Value.int IntKind.u8 0,
 Value.int IntKind.u8 0, Value.int IntKind.u8 0, Value.int IntKind.u8 0, Value.int IntKind.u8 0,
 Value.int IntKind.u8 0, Value.int IntKind.u8 0, Value.int IntKind.u8 0, Value.int IntKind.u8 0,
 Value.int IntKind.u8 0, Value.int IntKind.u8 0, Value.int IntKind.u8 0, Value.int IntKind.u8 0,
 Value.int IntKind.u8 0, Value.int IntKind.u8 0, Value.int IntKind.u8 0, Value.int IntKind.u8 0,
 Value.int IntKind.u8 0, Value.int IntKind.u8 0, Value.int IntKind.u8 0, Value.int IntKind.u8 0,
 Value.string (ByteArray.mk #[]), Value.string (ByteArray.mk #[]), Value.int IntKind.i64 0,
 Value.int IntKind.i64 0, Value.int IntKind.u8 0, Value.int IntKind.u8 0, Value.int IntKind.u8 0,
 Value.int IntKind.u8 0, Value.int IntKind.u8 0, Value.int IntKind.u8 0, Value.int IntKind.u8 0,
 Value.int IntKind.u8 0, Value.int IntKind.u8 0, Value.int IntKind.u8 0, Value.int IntKind.u8 0,
 Value.int IntKind.u8 0, Value.int IntKind.u8 0, Value.int IntKind.u8 0, Value.int IntKind.u8 0,
 Value.int IntKind.u8 0, Value.int IntKind.i64 0, Value.string (ByteArray.mk #[])]
 2,
 Blk.mk n_2 3 [Value.int IntKind.i64 now] 2,
 Blk.mk n_1 45
 (arrI IntKind.u8 a 16 0)
 2,
 Blk.mk n 9 [Value.string s] 2]
 w W →
 CallsS Tryz.prog 48 #[Value.pointer (some (Addr.mk b 0 none)), Value.int IntKind.i64 now] W
 fun (e : Ending) (w' : World) =>
 ∃ (x : Int),
 e = Ending.returned (Value.int IntKind.i64 x) ∧
 KeptL [n_3, n_2, n_1, n] W w' ∧
 bsp (x != 0)
 (∀ (W : World),
 Loc w.heap.size
 [Blk.mk n_3 48
 [Value.int IntKind.u8 0, Value.int IntKind.u8 0, Value.int IntKind.u8 0, Value.int IntKind.u8 0,
 Value.int IntKind.u8 0, Value.int IntKind.u8 0, Value.int IntKind.u8 0, Value.int IntKind.u8 0,
 Value.int IntKind.u8 0, Value.int IntKind.u8 0, Value.int IntKind.u8 0, Value.int IntKind.u8 0,
 Value.int IntKind.u8 0, Value.int IntKind.u8 0, Value.int IntKind.u8 0, Value.int IntKind.u8 0,
 Value.int IntKind.u8 0, Value.int IntKind.u8 0, Value.int IntKind.u8 0, Value.int IntKind.u8 0,
 Value.int IntKind.u8 0, Value.int IntKind.u8 0, Value.int IntKind.u8 0, Value.int IntKind.u8 0,
 Value.int IntKind.u8 0, Value.int IntKind.u8 0, Value.int IntKind.u8 0, Value.int IntKind.u8 0,
 Value.int IntKind.u8 0, Value.int IntKind.u8 0, Value.int IntKind.u8 0, Value.int IntKind.u8 0,
 Value.string (ByteArray.mk #[]), Value.string (ByteArray.mk #[]), Value.int IntKind.i64 0,
 Value.int IntKind.i64 0, Value.int IntKind.u8 0, Value.int IntKind.u8 0, Value.int IntKind.u8 0,
 Value.int IntKind.u8 0, Value.int IntKind.u8 0, Value.int IntKind.u8 0, Value.int IntKind.u8 0,
 Value.int IntKind.u8 0, Value.int IntKind.u8 0, Value.int IntKind.u8 0, Value.int IntKind.u8 0,
 Value.int IntKind.u8 0, Value.int IntKind.u8 0, Value.int IntKind.u8 0, Value.int IntKind.u8 0,
 Value.int IntKind.u8 0, Value.int IntKind.i64 0, Value.string (ByteArray.mk #[])]
 (wrM 0),
 Blk.mk n_2 3 [Value.int IntKind.i64 now] 0,
 Blk.mk n_1 45
 (arrI IntKind.u8 a 16 0)
 0,
 Blk.mk n 9 [Value.string s] 0]
 w' W →
 R
 (Ending.returned
 (Value.tuple
 #[Value.agg
 #[Value.int IntKind.u8 0, Value.int IntKind.u8 0, Value.int IntKind.u8 0, Value.int IntKind.u8 0,
 Value.int IntKind.u8 0, Value.int IntKind.u8 0, Value.int IntKind.u8 0, Value.int IntKind.u8 0,
 Value.int IntKind.u8 0, Value.int IntKind.u8 0, Value.int IntKind.u8 0, Value.int IntKind.u8 0,
 Value.int IntKind.u8 0, Value.int IntKind.u8 0, Value.int IntKind.u8 0, Value.int IntKind.u8 0,
 Value.int IntKind.u8 0, Value.int IntKind.u8 0, Value.int IntKind.u8 0, Value.int IntKind.u8 0,
 Value.int IntKind.u8 0, Value.int IntKind.u8 0, Value.int IntKind.u8 0, Value.int IntKind.u8 0,
 Value.int IntKind.u8 0, Value.int IntKind.u8 0, Value.int IntKind.u8 0, Value.int IntKind.u8 0,
 Value.int IntKind.u8 0, Value.int IntKind.u8 0, Value.int IntKind.u8 0, Value.int IntKind.u8 0,
 Value.string (ByteArray.mk #[]), Value.string (ByteArray.mk #[]), Value.int IntKind.i64 0,
 Value.int IntKind.i64 0, Value.int IntKind.u8 0, Value.int IntKind.u8 0, Value.int IntKind.u8 0,
 Value.int IntKind.u8 0, Value.int IntKind.u8 0, Value.int IntKind.u8 0, Value.int IntKind.u8 0,
 Value.int IntKind.u8 0, Value.int IntKind.u8 0, Value.int IntKind.u8 0, Value.int IntKind.u8 0,
 Value.int IntKind.u8 0, Value.int IntKind.u8 0, Value.int IntKind.u8 0, Value.int IntKind.u8 0,
 Value.int IntKind.u8 0, Value.int IntKind.i64 0, Value.string (ByteArray.mk #[])],
 Value.int IntKind.i64 x]))
 W)
 (CallsS Tryz.prog 75
 #[Value.pointer (some (Addr.mk b 0 none)), Value.string s,
 Value.agg
 (arrI IntKind.u8 a 16 0).toArray]
 w' fun (e : Ending) (w'_1 : World) =>
 ∃ (x : Bool),
 e = Ending.returned (Value.bool x) ∧
 KeptL [n_3, n_2, n_1, n] w' w'_1 ∧
 bsp (!x)
 (∀ (W : World),
 Loc w.heap.size
 [Blk.mk n_3 48
 [Value.int IntKind.u8 0, Value.int IntKind.u8 0, Value.int IntKind.u8 0, Value.int IntKind.u8 0,
 Value.int IntKind.u8 0, Value.int IntKind.u8 0, Value.int IntKind.u8 0, Value.int IntKind.u8 0,
 Value.int IntKind.u8 0, Value.int IntKind.u8 0, Value.int IntKind.u8 0, Value.int IntKind.u8 0,
 Value.int IntKind.u8 0, Value.int IntKind.u8 0, Value.int IntKind.u8 0, Value.int IntKind.u8 0,
 Value.int IntKind.u8 0, Value.int IntKind.u8 0, Value.int IntKind.u8 0, Value.int IntKind.u8 0,
 Value.int IntKind.u8 0, Value.int IntKind.u8 0, Value.int IntKind.u8 0, Value.int IntKind.u8 0,
 Value.int IntKind.u8 0, Value.int IntKind.u8 0, Value.int IntKind.u8 0, Value.int IntKind.u8 0,
 Value.int IntKind.u8 0, Value.int IntKind.u8 0, Value.int IntKind.u8 0, Value.int IntKind.u8 0,
 Value.string (ByteArray.mk #[]), Value.string (ByteArray.mk #[]), Value.int IntKind.i64 0,
 Value.int IntKind.i64 0, Value.int IntKind.u8 0, Value.int IntKind.u8 0, Value.int IntKind.u8 0,
 Value.int IntKind.u8 0, Value.int IntKind.u8 0, Value.int IntKind.u8 0, Value.int IntKind.u8 0,
 Value.int IntKind.u8 0, Value.int IntKind.u8 0, Value.int IntKind.u8 0, Value.int IntKind.u8 0,
 Value.int IntKind.u8 0, Value.int IntKind.u8 0, Value.int IntKind.u8 0, Value.int IntKind.u8 0,
 Value.int IntKind.u8 0, Value.int IntKind.i64 0, Value.string (ByteArray.mk #[])]
 (wrM 0),
 Blk.mk n_2 3 [Value.int IntKind.i64 now] 0,
 Blk.mk n_1 45
 (arrI IntKind.u8 a 16 0)
 0,
 Blk.mk n 9 [Value.string s] 0]
 w'_1 W →
 R
 (Ending.returned
 (Value.tuple
 #[Value.agg
 #[Value.int IntKind.u8 0, Value.int IntKind.u8 0, Value.int IntKind.u8 0, Value.int IntKind.u8 0,
 Value.int IntKind.u8 0, Value.int IntKind.u8 0, Value.int IntKind.u8 0, Value.int IntKind.u8 0,
 Value.int IntKind.u8 0, Value.int IntKind.u8 0, Value.int IntKind.u8 0, Value.int IntKind.u8 0,
 Value.int IntKind.u8 0, Value.int IntKind.u8 0, Value.int IntKind.u8 0, Value.int IntKind.u8 0,
 Value.int IntKind.u8 0, Value.int IntKind.u8 0, Value.int IntKind.u8 0, Value.int IntKind.u8 0,
 Value.int IntKind.u8 0, Value.int IntKind.u8 0, Value.int IntKind.u8 0, Value.int IntKind.u8 0,
 Value.int IntKind.u8 0, Value.int IntKind.u8 0, Value.int IntKind.u8 0, Value.int IntKind.u8 0,
 Value.int IntKind.u8 0, Value.int IntKind.u8 0, Value.int IntKind.u8 0, Value.int IntKind.u8 0,
 Value.string (ByteArray.mk #[]), Value.string (ByteArray.mk #[]), Value.int IntKind.i64 0,
 Value.int IntKind.i64 0, Value.int IntKind.u8 0, Value.int IntKind.u8 0, Value.int IntKind.u8 0,
 Value.int IntKind.u8 0, Value.int IntKind.u8 0, Value.int IntKind.u8 0, Value.int IntKind.u8 0,
 Value.int IntKind.u8 0, Value.int IntKind.u8 0, Value.int IntKind.u8 0, Value.int IntKind.u8 0,
 Value.int IntKind.u8 0, Value.int IntKind.u8 0, Value.int IntKind.u8 0, Value.int IntKind.u8 0,
 Value.int IntKind.u8 0, Value.int IntKind.i64 0, Value.string (ByteArray.mk #[])],
 Value.int IntKind.i64 20]))
 W)
 (CallsS Tryz.prog 65
 #[Value.pointer (some (Addr.mk b 0 none)),
 Value.func (Fn.func 76) #[]
 #[Value.pointer (some (Addr.mk n 0 none)), Value.pointer (some (Addr.mk n_1 0 none)),
 Value.pointer (some (Addr.mk n_2 0 none))]]
 w'_1 fun (e : Ending) (w' : World) =>
 ∃ (p : Option Addr),
 ∃ (n : Nat),
 ∃ (c : Nat),
 e = Ending.returned (Value.slice p n c) ∧
 KeptL [n_3] w'_1 w' ∧
 bsp ((↑n : Int) == 0)
 (∀ (W : World),
 Loc w.heap.size
 [Blk.mk n_3 48
 [Value.int IntKind.u8 0, Value.int IntKind.u8 0, Value.int IntKind.u8 0, Value.int IntKind.u8 0,
 Value.int IntKind.u8 0, Value.int IntKind.u8 0, Value.int IntKind.u8 0, Value.int IntKind.u8 0,
 Value.int IntKind.u8 0, Value.int IntKind.u8 0, Value.int IntKind.u8 0, Value.int IntKind.u8 0,
 Value.int IntKind.u8 0, Value.int IntKind.u8 0, Value.int IntKind.u8 0, Value.int IntKind.u8 0,
 Value.int IntKind.u8 0, Value.int IntKind.u8 0, Value.int IntKind.u8 0, Value.int IntKind.u8 0,
 Value.int IntKind.u8 0, Value.int IntKind.u8 0, Value.int IntKind.u8 0, Value.int IntKind.u8 0,
 Value.int IntKind.u8 0, Value.int IntKind.u8 0, Value.int IntKind.u8 0, Value.int IntKind.u8 0,
 Value.int IntKind.u8 0, Value.int IntKind.u8 0, Value.int IntKind.u8 0, Value.int IntKind.u8 0,
 Value.string (ByteArray.mk #[]), Value.string (ByteArray.mk #[]), Value.int IntKind.i64 0,
 Value.int IntKind.i64 0, Value.int IntKind.u8 0, Value.int IntKind.u8 0,
 Value.int IntKind.u8 0, Value.int IntKind.u8 0, Value.int IntKind.u8 0, Value.int IntKind.u8 0,
 Value.int IntKind.u8 0, Value.int IntKind.u8 0, Value.int IntKind.u8 0, Value.int IntKind.u8 0,
 Value.int IntKind.u8 0, Value.int IntKind.u8 0, Value.int IntKind.u8 0, Value.int IntKind.u8 0,
 Value.int IntKind.u8 0, Value.int IntKind.u8 0, Value.int IntKind.i64 0,
 Value.string (ByteArray.mk #[])]
 (wrM 0)]
 w' W →
 R
 (Ending.returned
 (Value.tuple
 #[Value.agg
 #[Value.int IntKind.u8 0, Value.int IntKind.u8 0, Value.int IntKind.u8 0,
 Value.int IntKind.u8 0, Value.int IntKind.u8 0, Value.int IntKind.u8 0,
 Value.int IntKind.u8 0, Value.int IntKind.u8 0, Value.int IntKind.u8 0,
 Value.int IntKind.u8 0, Value.int IntKind.u8 0, Value.int IntKind.u8 0,
 Value.int IntKind.u8 0, Value.int IntKind.u8 0, Value.int IntKind.u8 0,
 Value.int IntKind.u8 0, Value.int IntKind.u8 0, Value.int IntKind.u8 0,
 Value.int IntKind.u8 0, Value.int IntKind.u8 0, Value.int IntKind.u8 0,
 Value.int IntKind.u8 0, Value.int IntKind.u8 0, Value.int IntKind.u8 0,
 Value.int IntKind.u8 0, Value.int IntKind.u8 0, Value.int IntKind.u8 0,
 Value.int IntKind.u8 0, Value.int IntKind.u8 0, Value.int IntKind.u8 0,
 Value.int IntKind.u8 0, Value.int IntKind.u8 0, Value.string (ByteArray.mk #[]),
 Value.string (ByteArray.mk #[]), Value.int IntKind.i64 0, Value.int IntKind.i64 0,
 Value.int IntKind.u8 0, Value.int IntKind.u8 0, Value.int IntKind.u8 0,
 Value.int IntKind.u8 0, Value.int IntKind.u8 0, Value.int IntKind.u8 0,
 Value.int IntKind.u8 0, Value.int IntKind.u8 0, Value.int IntKind.u8 0,
 Value.int IntKind.u8 0, Value.int IntKind.u8 0, Value.int IntKind.u8 0,
 Value.int IntKind.u8 0, Value.int IntKind.u8 0, Value.int IntKind.u8 0,
 Value.int IntKind.u8 0, Value.int IntKind.i64 0, Value.string (ByteArray.mk #[])],
 Value.int IntKind.i64 8]))
 W)
 (CallsS Tryz.prog 78 #[Value.slice p n c, Value.func (Fn.func 68) #[] #[]] w'
 fun (e : Ending) (w'_2 : World) =>
 ∃ (f : Nat → Int),
 ∃ (x : ByteArray),
 ∃ (x_1 : ByteArray),
 ∃ (x_2 : Int),
 ∃ (x_3 : Int),
 ∃ (f_1 : Nat → Int),
 ∃ (x_4 : Int),
 ∃ (x_5 : ByteArray),
 e =
 Ending.returned
 (Value.agg
 (arrI IntKind.u8 f 32 0 ++ ([Value.string x,
 Value.string x_1, Value.int IntKind.i64 x_2, Value.int IntKind.i64 x_3] ++ arrI IntKind.u8 f_1 16 0 ++ [Value.int IntKind.i64 x_4, Value.string x_5])).toArray) ∧
 KeptL [n_3] w' w'_2 ∧
 ∀ (n : Nat),
 ∃ (x_6 : Option Nat),
 (∀ (W : World),
 Loc w.heap.size
 [Blk.mk n 48
 (arrI IntKind.u8 f 32 0 ++ ([Value.string x,
 Value.string x_1, Value.int IntKind.i64 x_2, Value.int IntKind.i64 x_3] ++ arrI IntKind.u8 f_1 16 0 ++ [Value.int IntKind.i64 x_4, Value.string x_5]))
 (wrM 2),
 Blk.mk n_3 48
 [Value.int IntKind.u8 0, Value.int IntKind.u8 0, Value.int IntKind.u8 0,
 Value.int IntKind.u8 0, Value.int IntKind.u8 0, Value.int IntKind.u8 0,
 Value.int IntKind.u8 0, Value.int IntKind.u8 0, Value.int IntKind.u8 0,
 Value.int IntKind.u8 0, Value.int IntKind.u8 0, Value.int IntKind.u8 0,
 Value.int IntKind.u8 0, Value.int IntKind.u8 0, Value.int IntKind.u8 0,
 Value.int IntKind.u8 0, Value.int IntKind.u8 0, Value.int IntKind.u8 0,
 Value.int IntKind.u8 0, Value.int IntKind.u8 0, Value.int IntKind.u8 0,
 Value.int IntKind.u8 0, Value.int IntKind.u8 0, Value.int IntKind.u8 0,
 Value.int IntKind.u8 0, Value.int IntKind.u8 0, Value.int IntKind.u8 0,
 Value.int IntKind.u8 0, Value.int IntKind.u8 0, Value.int IntKind.u8 0,
 Value.int IntKind.u8 0, Value.int IntKind.u8 0, Value.string (ByteArray.mk #[]),
 Value.string (ByteArray.mk #[]), Value.int IntKind.i64 0,
 Value.int IntKind.i64 0, Value.int IntKind.u8 0, Value.int IntKind.u8 0,
 Value.int IntKind.u8 0, Value.int IntKind.u8 0, Value.int IntKind.u8 0,
 Value.int IntKind.u8 0, Value.int IntKind.u8 0, Value.int IntKind.u8 0,
 Value.int IntKind.u8 0, Value.int IntKind.u8 0, Value.int IntKind.u8 0,
 Value.int IntKind.u8 0, Value.int IntKind.u8 0, Value.int IntKind.u8 0,
 Value.int IntKind.u8 0, Value.int IntKind.u8 0, Value.int IntKind.i64 0,
 Value.string (ByteArray.mk #[])]
 0]
 w'_2 W →
 W.cell? (Addr.mk b (0 + 4) none) = some (Value.map x_6)) ∧
 ∃ (f_2 : Nat → Int),
 (∀ (W : World),
 Loc w.heap.size
 [Blk.mk n 48
 (arrI IntKind.u8 f 32 0 ++ ([Value.string x,
 Value.string x_1, Value.int IntKind.i64 x_2, Value.int IntKind.i64 x_3] ++ arrI IntKind.u8 f_1 16 0 ++ [Value.int IntKind.i64 x_4, Value.string x_5]))
 (wrM 2),
 Blk.mk n_3 48
 [Value.int IntKind.u8 0, Value.int IntKind.u8 0, Value.int IntKind.u8 0,
 Value.int IntKind.u8 0, Value.int IntKind.u8 0, Value.int IntKind.u8 0,
 Value.int IntKind.u8 0, Value.int IntKind.u8 0, Value.int IntKind.u8 0,
 Value.int IntKind.u8 0, Value.int IntKind.u8 0, Value.int IntKind.u8 0,
 Value.int IntKind.u8 0, Value.int IntKind.u8 0, Value.int IntKind.u8 0,
 Value.int IntKind.u8 0, Value.int IntKind.u8 0, Value.int IntKind.u8 0,
 Value.int IntKind.u8 0, Value.int IntKind.u8 0, Value.int IntKind.u8 0,
 Value.int IntKind.u8 0, Value.int IntKind.u8 0, Value.int IntKind.u8 0,
 Value.int IntKind.u8 0, Value.int IntKind.u8 0, Value.int IntKind.u8 0,
 Value.int IntKind.u8 0, Value.int IntKind.u8 0, Value.int IntKind.u8 0,
 Value.int IntKind.u8 0, Value.int IntKind.u8 0,
 Value.string (ByteArray.mk #[]), Value.string (ByteArray.mk #[]),
 Value.int IntKind.i64 0, Value.int IntKind.i64 0, Value.int IntKind.u8 0,
 Value.int IntKind.u8 0, Value.int IntKind.u8 0, Value.int IntKind.u8 0,
 Value.int IntKind.u8 0, Value.int IntKind.u8 0, Value.int IntKind.u8 0,
 Value.int IntKind.u8 0, Value.int IntKind.u8 0, Value.int IntKind.u8 0,
 Value.int IntKind.u8 0, Value.int IntKind.u8 0, Value.int IntKind.u8 0,
 Value.int IntKind.u8 0, Value.int IntKind.u8 0, Value.int IntKind.u8 0,
 Value.int IntKind.i64 0, Value.string (ByteArray.mk #[])]
 0]
 w'_2 W →
 AtL W n_1 0
 (arrI IntKind.u8 f_2 16 0)) ∧
 ∃ (x_7 : Int),
 (∀ (W : World),
 Loc w.heap.size
 [Blk.mk n 48
 (arrI IntKind.u8 f 32 0 ++ ([Value.string x,
 Value.string x_1, Value.int IntKind.i64 x_2, Value.int IntKind.i64 x_3] ++ arrI IntKind.u8 f_1 16 0 ++ [Value.int IntKind.i64 x_4, Value.string x_5]))
 (wrM 2),
 Blk.mk n_3 48
 [Value.int IntKind.u8 0, Value.int IntKind.u8 0, Value.int IntKind.u8 0,
 Value.int IntKind.u8 0, Value.int IntKind.u8 0, Value.int IntKind.u8 0,
 Value.int IntKind.u8 0, Value.int IntKind.u8 0, Value.int IntKind.u8 0,
 Value.int IntKind.u8 0, Value.int IntKind.u8 0, Value.int IntKind.u8 0,
 Value.int IntKind.u8 0, Value.int IntKind.u8 0, Value.int IntKind.u8 0,
 Value.int IntKind.u8 0, Value.int IntKind.u8 0, Value.int IntKind.u8 0,
 Value.int IntKind.u8 0, Value.int IntKind.u8 0, Value.int IntKind.u8 0,
 Value.int IntKind.u8 0, Value.int IntKind.u8 0, Value.int IntKind.u8 0,
 Value.int IntKind.u8 0, Value.int IntKind.u8 0, Value.int IntKind.u8 0,
 Value.int IntKind.u8 0, Value.int IntKind.u8 0, Value.int IntKind.u8 0,
 Value.int IntKind.u8 0, Value.int IntKind.u8 0,
 Value.string (ByteArray.mk #[]), Value.string (ByteArray.mk #[]),
 Value.int IntKind.i64 0, Value.int IntKind.i64 0, Value.int IntKind.u8 0,
 Value.int IntKind.u8 0, Value.int IntKind.u8 0, Value.int IntKind.u8 0,
 Value.int IntKind.u8 0, Value.int IntKind.u8 0, Value.int IntKind.u8 0,
 Value.int IntKind.u8 0, Value.int IntKind.u8 0, Value.int IntKind.u8 0,
 Value.int IntKind.u8 0, Value.int IntKind.u8 0, Value.int IntKind.u8 0,
 Value.int IntKind.u8 0, Value.int IntKind.u8 0, Value.int IntKind.u8 0,
 Value.int IntKind.i64 0, Value.string (ByteArray.mk #[])]
 0]
 w'_2 W →
 W.cell? (Addr.mk n_2 0 none) = some (Value.int IntKind.i64 x_7)) ∧
 ∀ (W : World),
 Loc w.heap.size
 [Blk.mk n 48
 (arrI IntKind.u8 f 32 0 ++ ([Value.string x,
 Value.string x_1, Value.int IntKind.i64 x_2, Value.int IntKind.i64 x_3] ++ arrI IntKind.u8 f_1 16 0 ++ [Value.int IntKind.i64 x_4, Value.string x_5]))
 (wrM 2),
 Blk.mk n_3 48
 [Value.int IntKind.u8 0, Value.int IntKind.u8 0, Value.int IntKind.u8 0,
 Value.int IntKind.u8 0, Value.int IntKind.u8 0, Value.int IntKind.u8 0,
 Value.int IntKind.u8 0, Value.int IntKind.u8 0, Value.int IntKind.u8 0,
 Value.int IntKind.u8 0, Value.int IntKind.u8 0, Value.int IntKind.u8 0,
 Value.int IntKind.u8 0, Value.int IntKind.u8 0, Value.int IntKind.u8 0,
 Value.int IntKind.u8 0, Value.int IntKind.u8 0, Value.int IntKind.u8 0,
 Value.int IntKind.u8 0, Value.int IntKind.u8 0, Value.int IntKind.u8 0,
 Value.int IntKind.u8 0, Value.int IntKind.u8 0, Value.int IntKind.u8 0,
 Value.int IntKind.u8 0, Value.int IntKind.u8 0, Value.int IntKind.u8 0,
 Value.int IntKind.u8 0, Value.int IntKind.u8 0, Value.int IntKind.u8 0,
 Value.int IntKind.u8 0, Value.int IntKind.u8 0,
 Value.string (ByteArray.mk #[]), Value.string (ByteArray.mk #[]),
 Value.int IntKind.i64 0, Value.int IntKind.i64 0, Value.int IntKind.u8 0,
 Value.int IntKind.u8 0, Value.int IntKind.u8 0, Value.int IntKind.u8 0,
 Value.int IntKind.u8 0, Value.int IntKind.u8 0, Value.int IntKind.u8 0,
 Value.int IntKind.u8 0, Value.int IntKind.u8 0, Value.int IntKind.u8 0,
 Value.int IntKind.u8 0, Value.int IntKind.u8 0, Value.int IntKind.u8 0,
 Value.int IntKind.u8 0, Value.int IntKind.u8 0, Value.int IntKind.u8 0,
 Value.int IntKind.i64 0, Value.string (ByteArray.mk #[])]
 0]
 w'_2 W →
 ∃ (w1 : World),
 UpdP Tryz.prog 96 (Value.map x_6)
 (Value.agg
 (arrI IntKind.u8 f 32 0 ++ [Value.string x]).toArray)
 (Value.agg
 (arrI IntKind.u8 f 32 0 ++ ([Value.string x,
 Value.string x_1, Value.int IntKind.i64 x_2, Value.int IntKind.i64 x_3] ++ arrI IntKind.u8 f_1 16 0 ++ ([Value.int IntKind.i64 x_4, Value.string x_5, Value.bool true] ++ arrI IntKind.u8 f_2 16 0 ++ [Value.int IntKind.i64 x_7]))).toArray)
 W w1 ∧
 KeptL [n, n_3] W w1 ∧
 ∀ (W : World),
 Loc w.heap.size
 [Blk.mk n 48
 (arrI IntKind.u8 f 32 0 ++ ([Value.string x, Value.string x_1, Value.int IntKind.i64 x_2,
 Value.int IntKind.i64 x_3] ++ arrI IntKind.u8 f_1 16 0 ++ [Value.int IntKind.i64 x_4,
 Value.string x_5]))
 0,
 Blk.mk n_3 48
 (arrI IntKind.u8 f 32 0 ++ ([Value.string x, Value.string x_1, Value.int IntKind.i64 x_2,
 Value.int IntKind.i64 x_3] ++ arrI IntKind.u8 f_1 16 0 ++ [Value.int IntKind.i64 x_4,
 Value.string x_5]))
 (wrM 0)]
 w1 W →
 R
 (Ending.returned
 (Value.tuple
 #[Value.agg
 (arrI IntKind.u8 f 32 0 ++ ([Value.string x, Value.string x_1, Value.int IntKind.i64 x_2,
 Value.int IntKind.i64 x_3] ++ arrI IntKind.u8 f_1 16 0 ++ [Value.int IntKind.i64 x_4,
 Value.string x_5])).toArray,
 Value.int IntKind.i64 0]))
 W)))
theorem vc_claim (b : Nat) (s : ByteArray) (a : Nat → Int) (now : Int) (w : World) (R : Ending → World → Prop) (h : VC_claim b s a now w R) : Calls Tryz.prog 39 ([Value.pointer
    (some { block := b, off := 0 }),
  Value.string s, Value.agg (arrI IntKind.u8 a 16 0).toArray, Value.int IntKind.i64 now] : List Value).toArray w R := by
  have e : execR2 { P := Tryz.prog, loops := [], pur := pur1, tails := [(10, 14)], joins := [], boxes := [] } Tryz.f39.results.toList R (Tryz.f39.body.getD .skip) (initF [Value.pointer
    (some { block := b, off := 0 }),
  Value.string s, Value.agg (arrI IntKind.u8 a 16 0).toArray,
  Value.int IntKind.i64
    now] (Tryz.f39.ntmps - ([Value.pointer (some { block := b, off := 0 }), Value.string s,
  Value.agg (arrI IntKind.u8 a 16 0).toArray,
  Value.int IntKind.i64 now] : List Value).length)) w = VC_claim b s a now w R := by kernel_rfl
  have hb : Tryz.f39.body = some (Tryz.f39.body.getD .skip) := by kernel_rfl
  exact calls_of_exec2' (P := Tryz.prog) (fn := Tryz.f39) (c := Tryz.f39.body.getD .skip) (args := [Value.pointer
    (some { block := b, off := 0 }),
  Value.string s, Value.agg (arrI IntKind.u8 a 16 0).toArray,
  Value.int IntKind.i64 now]) (w := w) (R := R) pur1_ok Tryz.func39 hb e h

end Go.Proofs.YtfacflbmlfbeeaaGreatDoor

/- Chapter 39: the contracts of Submit, Claim, SetModerators. The library's variable MaxLen holds a number; lists are not too long. -/
namespace Go.Proofs.YtfacflbmlfbeeaaGreatDoor
open Go.RowKit Go.Sort Go.Maps

theorem Kp.qb {M : Nat → Prop} {b mb eb : Nat} {w w' : World} (h : Kp M w w') (hm : ∀ k, M k → QB b mb eb k) : Kp (QB b mb eb) w w' := h.mono fun _ _ e => hm _ e
theorem Kp.q0 {b mb eb : Nat} {w w' : World} (h : Kp (fun _ => False) w w') : Kp (QB b mb eb) w w' := h.mono fun _ _ e => e.elim
/-- Blocks of the function's own are not the queue's. -/
theorem Mq.kept {w w' : World} {b mb eb : Nat} {q : Qu} (h : Mq w b mb eb q) {M : Nat → Prop} (hk : Kp M w w') (hm : ∀ k, M k → QB b mb eb k) {ns : List Nat} (hn : ∀ n ∈ ns, ∃ c t f, w.heap[n]? = some (.cells c t f) ∧ (t == 98) = false) : KeptL ns w w' :=
  .of_kp hk fun n hin e => by
    obtain ⟨c, t, f, hc, ht⟩ := hn n hin
    rcases hm n e with rfl | rfl | rfl
    · rw [h.st] at hc; cases hc; exact absurd ht (by decide)
    · obtain ⟨es, k, hb, _⟩ := h.mm.blk; rw [hb] at hc; cases hc
    · obtain ⟨es, k, hb, _⟩ := h.me.blk; rw [hb] at hc; cases hc
/-- Blocks of the function's own are written behind the queue. -/
theorem Mq.loc {w w6 w7 : World} {b mb eb : Nat} {q q' : Qu} (h : Mq w b mb eb q) (h6 : Mq w6 b mb eb q') (hq : q'.ms = q.ms) (k6 : Kp (QB b mb eb) w w6) {T : List Blk} (hL : Loc w.heap.size T w6 w7) : Mq w7 b mb eb q' ∧ Kp (QB b mb eb) w w7 := by
  have hM : ∀ k, (∃ x ∈ T, x.m = 1 ∧ x.n = k) → w.heap.size ≤ k := fun k ⟨x, hx, _, e⟩ => by have := hL.ge x hx; omega
  have k7 : Kp (QB b mb eb) w w7 := k6.fresh hL.kp (fun i hi e => by have := hM i e; omega)
  have hb := block_lt h.st
  have hm := h.mm.lt
  have he := h.me.lt
  exact ⟨⟨hL.kp.blk h6.st (fun e => by have := hM _ e; omega), h6.mm.kp hL.kp (fun e => by have := hM _ e; omega), h6.me.kp hL.kp (fun e => by have := hM _ e; omega), fun g x hx => (h.row g x (by rw [← hq]; exact hx)).kpU auC_u k7 h.nu, h.ne, h.nz⟩, k7⟩
theorem gnE_sz39 {g : ByteArray} (h : gnE g = 0) : g.size ≤ 80 := by
  unfold gnE at h
  split at h
  · cases h
  · omega

/-! ### Submit -/
def newE (id : Nat → Int) (g tx : ByteArray) (now : Int) : En := ⟨⟨id, g, tx, now, 0, fun _ => 0, 0, ⟨#[]⟩⟩, false, fun _ => 0, 0⟩
def subE (q : Qu) (id : Nat → Int) (g tx : ByteArray) (now : Int) : Int := if minB now = false then 2 else if gnE g ≠ 0 then gnE g else if 65536 < tx.size then 5 else if (q.md g).l.length = 0 then 33 else if (aget q.es (idI id, g)).isSome = true then 7 else if q.room ≤ q.wt then 9 else 0
def subQ (q : Qu) (id : Nat → Int) (g tx : ByteArray) (now : Int) : Qu := if subE q id g tx now = 0 then { q with es := aset q.es (idI id, g) (newE id g tx now), wt := q.wt + 1 } else q
set_option maxHeartbeats 1000000 in
theorem submit_any {w : World} {b mb eb : Nat} {q : Qu} (h : Mq w b mb eb q) (ho : q.OK) (id : Nat → Int) (hid : BY id) (g tx : ByteArray) (now : Int) (hG : GW w) :
    Calls Tryz.prog 18 #[.pointer (some ⟨b, 0, none⟩), .agg (arrI .u8 id 32 0).toArray, .string g, .string tx, .int .i64 now] w fun e w' => e = .returned (.int .i64 (subE q id g tx now)) ∧ Mq w' b mb eb (subQ q id g tx now) ∧ Kp (QB b mb eb) w w' := by
  refine vc_submit b id g tx now w _ (fun n W hW => ?_)
  have kW : K0 w W := hW.kk rfl
  have c0 := hW.cells 0 rfl
  unfold subQ subE
  refine ⟨(begin_any b now W).mono fun e w1 ⟨he, k1⟩ => ⟨_, he, .of_k0 k1, bsp_intro (fun h1 => ?_) (fun h1 => ?_)⟩⟩
  · have h1 : minB now = false := by
      cases hm : minB now with
      | false => rfl
      | true => rw [hm] at h1; simp at h1
    rw [h1]
    exact ⟨rfl, h.k0 (kW.trans k1), (kW.trans k1).q0⟩
  have h1 : minB now = true := by
    cases hm : minB now with
    | true => rfl
    | false => rw [hm] at h1; simp at h1
  rw [h1, if_neg (by decide)]
  have k01 := kW.trans k1
  refine ⟨(gcheck_any g w1 (hG.kp k01 (fun h => h))).mono fun e w2 ⟨he, k2⟩ => ⟨_, he, .of_k0 k2, bsp_intro (fun h2 => ?_) (fun h2 => ?_)⟩⟩
  · have h2 : gnE g ≠ 0 := by simpa using h2
    rw [if_pos h2, if_neg h2]
    exact ⟨rfl, h.k0 (k01.trans k2), (k01.trans k2).q0⟩
  have h2 : gnE g = 0 := by simpa using h2
  have hgs := gnE_sz39 h2
  rw [if_neg (by omega)]
  intro n1 W3 hW3
  have k3 : K0 w W3 := hW3.k0 (k01.trans k2)
  have d0 := hW3.cells 0 rfl
  have d1 := hW3.cells 1 rfl
  have h3 := h.k0 k3
  refine ⟨fun wx => K0 W3 wx, .refl _ _, some eb, fun wx k => (h3.k0 k).cE, id, g, fun wx k => AtL_block (k.blk d0 (fun h => h)) rfl, _, _, _, _, _, _, _, _, _, _, _, _, fun wx k => (h3.k0 k).lookE hid (by omega), fun n4 w4 hn4 => ⟨hn4.kp _, WrL_block hn4.block (by show 0 + 72 ≤ 72; omega), fun w5 p5 => ?_⟩⟩
  have k5 : K0 W3 w5 := put_k0 (hn4.kp _) p5 hn4.ge
  have k05 := k3.trans k5
  have h5 := h.k0 k05
  refine ⟨.of_k0 k5, bsp_intro (fun h6 => ?_) (fun h6 => ?_)⟩
  · have h6 : 65536 < tx.size := by simp at h6; omega
    rw [if_pos h6, if_neg (by decide)]
    exact ⟨rfl, h5, k05.q0⟩
  have h6 : ¬ 65536 < tx.size := by simp at h6; omega
  rw [if_neg h6]
  refine ⟨some mb, h5.cM, _, _, _, h5.lookM (by omega), bsp_intro (fun h7 => ?_) (fun h7 => bsp_intro (fun h8 => ?_) (fun h8 => ?_))⟩
  · have h7 : (q.md g).l.length = 0 := by simpa using h7
    rw [if_pos h7, if_neg (by decide)]
    exact ⟨rfl, h5, k05.q0⟩
  · have h7 : ¬ (q.md g).l.length = 0 := by simpa using h7
    rw [if_neg h7, if_pos h8, if_neg (by decide)]
    exact ⟨rfl, h5, k05.q0⟩
  have h7 : ¬ (q.md g).l.length = 0 := by simpa using h7
  rw [if_neg h7, if_neg (by rw [h8]; decide)]
  refine ⟨q.wt, fun W hW => (h5.k0 (hW.kk rfl)).cW, q.room, fun W hW => (h5.k0 (hW.kk rfl)).cR, bsp_intro (fun h9 => fun W hW => ?_) (fun h9 => ?_)⟩
  · have h9 : q.room ≤ q.wt := by simp at h9; omega
    rw [if_pos h9, if_neg (by decide)]
    exact ⟨rfl, h5.k0 (hW.kk rfl), (k05.trans (hW.kk rfl)).q0⟩
  have h9 : ¬ q.room ≤ q.wt := by simp at h9; omega
  rw [if_neg h9, if_pos rfl]
  refine ⟨some eb, fun W hW => (h5.k0 (hW.kk rfl)).cE, fun W6 hW6 => ?_⟩
  have k6 : K0 w5 W6 := hW6.kk rfl
  have h66 := h5.k0 k6
  obtain ⟨w7, hu, h77, k7⟩ := h66.updE (newE id g tx now) hid (g := g) (by omega)
  have e0 := hW6.cells 0 rfl
  have e1 := hW6.cells 1 rfl
  have f0 := k7.blk e0 (fun e => by obtain ⟨es, k, hb, _⟩ := h66.me.blk; have e : _ = eb := e; rw [e, hb] at e0; cases e0)
  have f1 := k7.blk e1 (fun e => by obtain ⟨es, k, hb, _⟩ := h66.me.blk; have e : _ = eb := e; rw [e, hb] at e1; cases e1)
  refine ⟨w7, hu, h66.kept k7 (fun k e => .inr (.inr e)) (fun z hz => ?_), q.wt, h77.cW, h77.wrW, fun w8 p8 => ⟨h77.kept p8.kp (fun k e => .inl e) (fun z hz => ?_), rfl, ?_, ?_⟩⟩
  · simp only [List.mem_cons, List.not_mem_nil, or_false] at hz
    rcases hz with rfl | rfl
    · exact ⟨_, _, _, e0, rfl⟩
    · exact ⟨_, _, _, e1, rfl⟩
  · simp only [List.mem_cons, List.not_mem_nil, or_false] at hz
    rcases hz with rfl | rfl
    · exact ⟨_, _, _, f0, rfl⟩
    · exact ⟨_, _, _, f1, rfl⟩
  · have hwt : 0 ≤ q.wt := by have := ho.wt; omega
    have hr := ho.room
    rw [wr64 (by omega) (by omega)] at p8
    exact h77.putW p8
  · exact (((k05.trans k6).q0).trans (k7.qb (fun k e => .inr (.inr e)))).trans (p8.kp.qb (fun k e => .inl e))

/-! ### Claim -/
def clP (g : ByteArray) (a : List Int) (now : Int) (x : En) : Bool := (decide (x.s.g = g) && x.s.st == 0) && !blk x a now
theorem clmC_any (x : En) (hx : x.OK) (g : ByteArray) (a : Nat → Int) (ha : BY a) (now : Int) (hn : 0 ≤ now ∧ now ≤ 105190559) (b1 b2 b3 : Nat) (w : World) (h1 : w.cell? ⟨b1, 0, none⟩ = some (.string g)) (h2 : AtL w b2 0 (arrI .u8 a 16 0)) (h3 : w.cell? ⟨b3, 0, none⟩ = some (.int .i64 now)) :
    Calls Tryz.prog 76 #[enV x, .pointer (some ⟨b1, 0, none⟩), .pointer (some ⟨b2, 0, none⟩), .pointer (some ⟨b3, 0, none⟩)] w fun e w' => e = .returned (.bool (clP g (auI a) now x)) ∧ K0 w w' := by
  refine vc_clmC x.s.id x.s.mo x.s.g x.s.tx x.s.r x.s.st x.s.de x.s.rs x.le x.ho x.si b1 b2 b3 w _ (fun n => ⟨g, fun W hW => (hW.kk rfl : K0 w W).cell' h1 (fun h => h), x.s.st, gimp_intro fun _ W hW => cell_at (hW.cells 0 rfl) rfl, a, gimp_intro fun _ W hW => h2.k0 (hW.kk rfl), now, gimp_intro fun _ W hW => (hW.kk rfl : K0 w W).cell' h3 (fun h => h), fun W hW => ?_⟩)
  have kW : K0 w W := hW.kk rfl
  unfold clP
  rw [← str_beq]
  refine bsp_intro (fun hb => ?_) (fun hb => ?_)
  · rw [hb]
    have hc := blocked_any x a now hx ha hn W
    exact ⟨hc.mono fun e w1 ⟨he, k1⟩ => ⟨_, he, .of_k0 k1, rfl, kW.trans k1⟩⟩
  · rw [hb]
    exact ⟨.refl _ _, rfl, kW⟩
def isSel (q : Qu) (g : ByteArray) (a : List Int) (now : Int) : List Sb := selE (clP g a now) q.es
/-- What Claim answers: the error; at 0 the least of those that may be claimed. -/
def clmE (q : Qu) (g : ByteArray) (a : Nat → Int) (now : Int) : Int := if minB now = false then 2 else if isMB (q.md g) a = false then 20 else if (isSel q g (auI a) now).length = 0 then 8 else 0
theorem minB_iff {now : Int} : minB now = true ↔ 0 ≤ now ∧ now ≤ 105190559 := by unfold minB; simp
set_option maxHeartbeats 1000000 in
set_option maxRecDepth 100000 in
theorem claim_any {w : World} {b mb eb : Nat} {q : Qu} (h : Mq w b mb eb q) (ho : q.OK) (hln : q.es.length ≤ 1000000) (g : ByteArray) (hg : g.size ≤ 1073741824) (a : Nat → Int) (ha : BY a) (now : Int) (hG : GW w) :
    Calls Tryz.prog 39 #[.pointer (some ⟨b, 0, none⟩), .string g, .agg (arrI .u8 a 16 0).toArray, .int .i64 now] w fun e w' =>
      (clmE q g a now ≠ 0 ∧ e = .returned (.tuple #[sbV sbz, .int .i64 (clmE q g a now)]) ∧ K0 w w') ∨
      (clmE q g a now = 0 ∧ ∃ x : Sb, x ∈ isSel q g (auI a) now ∧ (∀ y ∈ isSel q g (auI a) now, ¬ cfM y x < 0) ∧ e = .returned (.tuple #[sbV x, .int .i64 0]) ∧ Mq w' b mb eb { q with es := aset q.es x.ky ⟨x, true, a, now⟩ } ∧ Kp (QB b mb eb) w w') := by
  refine vc_claim b g a now w _ (fun n n1 n2 n3 W hW => ?_)
  have kW : K0 w W := hW.kk rfl
  have c0 := hW.cells 0 rfl
  have c1 := hW.cells 1 rfl
  have c2 := hW.cells 2 rfl
  have c3 := hW.cells 3 rfl
  unfold clmE
  refine ⟨(begin_any b now W).mono fun e w1 ⟨he, k1⟩ => ⟨_, he, .of_k0 k1, bsp_intro (fun h1 W2 hW2 => ?_) (fun h1 => ?_)⟩⟩
  · have h1 : minB now = false := by
      cases hm : minB now with
      | false => rfl
      | true => rw [hm] at h1; simp at h1
    rw [h1, if_pos rfl]
    exact .inl ⟨by decide, rfl, hW2.k0 (kW.trans k1)⟩
  have h1 : minB now = true := by
    cases hm : minB now with
    | true => rfl
    | false => rw [hm] at h1; simp at h1
  have hnow := minB_iff.1 h1
  rw [h1, if_neg (by decide)]
  have k01 := kW.trans k1
  refine ⟨(ismod_any (h.k0 k01) ho g hg a ha).mono fun e w2 ⟨he, k2⟩ => ⟨_, he, .of_k0 k2, bsp_intro (fun h2 W3 hW3 => ?_) (fun h2 => ?_)⟩⟩
  · have h2 : isMB (q.md g) a = false := by simpa using h2
    rw [if_pos h2]
    exact .inl ⟨by decide, rfl, hW3.k0 (k01.trans k2)⟩
  have h2 : isMB (q.md g) a = true := by simpa using h2
  rw [h2, if_neg (by decide)]
  have k02 := k01.trans k2
  have kW2 := k1.trans k2
  have hm := ho.mem h.dis
  have hF : ∀ x : En, x.OK → ∀ w1, K0 w2 w1 → Calls Tryz.prog 76 (appA #[] [enV x] #[.pointer (some ⟨n, 0, none⟩), .pointer (some ⟨n1, 0, none⟩), .pointer (some ⟨n2, 0, none⟩)]) w1 fun e w3 => e = .returned (.bool (clP g (auI a) now x)) ∧ K0 w1 w3 := fun x hx w1 k => by
    have h3 := clmC_any x hx g a ha now hnow n n1 n2 w1 (cell_at ((kW2.trans k).blk c3 (fun h => h)) rfl) (AtL_block ((kW2.trans k).blk c2 (fun h => h)) rfl) (cell_at ((kW2.trans k).blk c1 (fun h => h)) rfl)
    generalize enV x = v at h3 ⊢
    exact h3
  refine ⟨(selected_any (h.k0 k02) hm hln 76 #[] #[.pointer (some ⟨n, 0, none⟩), .pointer (some ⟨n1, 0, none⟩), .pointer (some ⟨n2, 0, none⟩)] (clP g (auI a) now) (by kernel_rfl) hF).mono fun e w3 ⟨⟨p, c, l, he, hp, hown⟩, k3⟩ => ⟨_, _, _, he, .of_k0 k3, bsp_intro (fun h3 W4 hW4 => ?_) (fun h3 => ?_)⟩⟩
  · have h3 : l.length = 0 := by simpa using h3
    have h3' : (isSel q g (auI a) now).length = 0 := hp.length_eq.symm.trans h3
    rw [if_pos h3']
    exact .inl ⟨by decide, rfl, hW4.k0 (k02.trans k3)⟩
  have h3 : ¬ l.length = 0 := by simpa using h3
  have h3' : ¬ (isSel q g (auI a) now).length = 0 := fun e => h3 (hp.length_eq.trans e)
  rw [if_neg h3']
  have k03 := k02.trans k3
  have hlen : l.length ≤ q.es.length := by rw [hp.length_eq]; exact selE_le _ _
  have hgz : ∀ x ∈ l, x.g.size ≤ 1073741824 := fun x hx => by
    obtain ⟨k, en, h4, _, rfl⟩ := selE_mem (hp.subset hx)
    exact (hm k en h4).1.s.g
  refine ⟨(minf_any l p c w3 (RowA.own hown sbC_length (by decide)) (by omega) hgz (by omega) (hG.kp k03 (fun h => h))).mono fun e w4 ⟨⟨x, he, hx, hmin⟩, k4⟩ => ⟨x.id, x.g, x.tx, x.r, x.st, x.mo, x.de, x.rs, he, .of_k0 k4, fun n5 => ?_⟩⟩
  have k04 := k03.trans k4
  have kW4 := (kW2.trans k3).trans k4
  obtain ⟨kx, en, hmx, _, hen⟩ := selE_mem (hp.subset hx)
  have hxo : x.OK := by rw [← hen]; exact (hm kx en hmx).1.s
  refine ⟨some eb, fun W hW => ((h.k0 k04).k0 (hW.kk rfl)).cE, a, fun W hW => AtL_block ((kW4.trans (hW.kk rfl)).blk c2 (fun h => h)) rfl, now, fun W hW => cell_at ((kW4.trans (hW.kk rfl)).blk c1 (fun h => h)) rfl, fun W5 hW5 => ?_⟩
  have k5 : K0 w4 W5 := hW5.kk rfl
  have h5 := (h.k0 k04).k0 k5
  have d0 := hW5.cells 0 rfl
  have d1 := hW5.cells 1 rfl
  obtain ⟨w6, hu, h6, k6⟩ := h5.updE ⟨x, true, a, now⟩ hxo.id (g := x.g) hxo.g
  refine ⟨w6, hu, h5.kept k6 (fun k e => .inr (.inr e)) (fun z hz => ?_), fun W7 hW7 => ?_⟩
  · simp only [List.mem_cons, List.not_mem_nil, or_false] at hz
    rcases hz with rfl | rfl
    · exact ⟨_, _, _, d0, rfl⟩
    · exact ⟨_, _, _, d1, rfl⟩
  have hkq : Kp (QB b mb eb) w w6 := ((k04.trans k5).q0).trans (k6.qb (fun k e => .inr (.inr e)))
  obtain ⟨h7, k7⟩ := h.loc h6 rfl hkq hW7
  exact .inr ⟨rfl, x, hp.subset hx, fun y hy => hmin y (hp.symm.subset hy), rfl, h7, k7⟩

end Go.Proofs.YtfacflbmlfbeeaaGreatDoor

/- Chapter 39: the contract of SetModerators. The library's variable MaxLen holds a number; rows are not too long. -/
namespace Go.Proofs.YtfacflbmlfbeeaaGreatDoor
open Go.RowKit Go.Sort Go.Maps

theorem u8_inj39 {x y : Int} (hx : 0 ≤ x ∧ x ≤ 255) (hy : 0 ≤ y ∧ y ≤ 255) (h : x.toNat.toUInt8 = y.toNat.toUInt8) : x = y := by
  have h1 : x.toNat.toUInt8.toNat = y.toNat.toUInt8.toNat := by rw [h]
  rw [UInt8.toNat_ofNat', UInt8.toNat_ofNat'] at h1
  omega
theorem bytes_inj : ∀ (l m : List Int), (∀ x ∈ l, 0 ≤ x ∧ x ≤ 255) → (∀ x ∈ m, 0 ≤ x ∧ x ≤ 255) → l.map (fun x => x.toNat.toUInt8) = m.map (fun x => x.toNat.toUInt8) → l = m
  | [], [], _, _, _ => rfl
  | [], _ :: _, _, _, h => by simp at h
  | _ :: _, [], _, _, h => by simp at h
  | x :: l, y :: m, hl, hm, h => by
    simp only [List.map_cons, List.cons.injEq] at h
    rw [u8_inj39 (hl x (by simp)) (hm y (by simp)) h.1, bytes_inj l m (fun z hz => hl z (by simp [hz])) (fun z hz => hm z (by simp [hz])) h.2]
theorem auB_inj {f g : Nat → Int} (hf : BY f) (hg : BY g) (h : auB f = auB g) : auI f = auI g := bytes_inj _ _ (auI_bd hf) (auI_bd hg) h
theorem idB_inj39 {f g : Nat → Int} (hf : BY f) (hg : BY g) (h : idB f = idB g) : idI f = idI g := bytes_inj _ _ (idI_bd hf) (idI_bd hg) h
theorem sorted_adj {l : List (Nat → Int)} (hs : l.Pairwise fun x y => ¬ cfA y x < 0) (hb : ∀ m ∈ l, BY m) : adjI l ↔ ¬ (l.map auI).Nodup := by
  constructor
  · rintro ⟨k, x, y, h1, h2, h3⟩ hn
    obtain ⟨hk1, e1⟩ := List.getElem?_eq_some_iff.1 h1
    obtain ⟨hk2, e2⟩ := List.getElem?_eq_some_iff.1 h2
    have := List.pairwise_iff_getElem.1 hn k (k + 1) (by simpa using hk1) (by simpa using hk2) (by omega)
    simp only [List.getElem_map, e1, e2] at this
    exact this h3
  · intro hn
    refine Classical.byContradiction fun hadj => hn ?_
    have key : ∀ d i, (h : i + d + 1 < l.length) → cfA (l[i]'(by omega)) (l[i + d + 1]'h) < 0 := by
      intro d
      induction d with
      | zero =>
        intro i h
        have h1 := List.pairwise_iff_getElem.1 hs i (i + 1) (by omega) (by omega) (by omega)
        have h2 := cfA_ord.anti (l[i]'(by omega)) (l[i + 1]'(by omega))
        rcases Int.lt_or_eq_of_le (show cfA (l[i]'(by omega)) (l[i + 1]'(by omega)) ≤ 0 by omega) with h3 | h3
        · exact h3
        · exact absurd ⟨i, _, _, List.getElem?_eq_getElem (by omega), List.getElem?_eq_getElem (by omega), auB_inj (hb _ (List.getElem_mem _)) (hb _ (List.getElem_mem _)) (cb_zero _ _ h3)⟩ hadj
      | succ d ih =>
        intro i h
        have h1 := ih i (by omega)
        have h2 := List.pairwise_iff_getElem.1 hs (i + d + 1) (i + d + 2) (by omega) (by omega) (by omega)
        have h3 := cfA_ord.anti (l[i + d + 1]'(by omega)) (l[i + d + 2]'(by omega))
        rcases Int.lt_or_eq_of_le (show cfA (l[i + d + 1]'(by omega)) (l[i + d + 2]'(by omega)) ≤ 0 by omega) with h4 | h4
        · exact cfA_ord.tlt _ _ _ h1 h4
        · exact cfA_ord.le _ _ _ h1 h4
    rw [List.Nodup, List.pairwise_iff_getElem]
    intro i j hi hj hij
    simp only [List.getElem_map]
    simp only [List.length_map] at hi hj
    obtain ⟨d, rfl⟩ : ∃ d, j = i + d + 1 := ⟨j - i - 1, by omega⟩
    have h1 := key d i hj
    intro e
    have h2 : cfA (l[i]'hi) (l[i + d + 1]'hj) = 0 := by
      unfold cfA auB
      rw [e]; exact cb_self _
    omega
theorem avalues_any (p : Option Addr) (n c : Nat) (w : World) : Calls Tryz.prog 72 #[.slice p n c] w fun e w' => (∃ Bs, e = .returned (.func (.func 105) #[] #[.pointer (some ⟨Bs, 0, none⟩)]) ∧ w'.cell? ⟨Bs, 0, none⟩ = some (.slice p n c) ∧ Bs < w'.heap.size) ∧ K0 w w' :=
  vc_avalues p n c w _ (fun n1 _ hW => ⟨⟨n1, rfl, cell_at (hW.cells 0 rfl) rfl, block_lt (hW.cells 0 rfl)⟩, hW.kk rfl⟩)
/-- What SetModerators answers, and what the queue holds then. -/
noncomputable def setE (g : ByteArray) (l : List (Nat → Int)) : Int := open Classical in if gnE g ≠ 0 then gnE g else if 8 < l.length then 9 else if (l.map auI).Nodup then 0 else 7
def setR (q : Qu) (g : ByteArray) (l : List (Nat → Int)) (q' : Qu) : Prop :=
  (setE g l ≠ 0 ∧ q' = q) ∨ (setE g l = 0 ∧ l = [] ∧ q' = { q with ms := adel q.ms g }) ∨ (setE g l = 0 ∧ l ≠ [] ∧ ∃ x : MX, x.l.Perm l ∧ (x.l.Pairwise fun x y => ¬ cfA y x < 0) ∧ x.l.length ≤ x.c ∧ q' = { q with ms := aset q.ms g x })
set_option maxHeartbeats 1000000 in
theorem setMods_any {w : World} {b mb eb : Nat} {q : Qu} (h : Mq w b mb eb q) (g : ByteArray) (l : List (Nat → Int)) (p : Option Addr) (c : Nat) (hR : RowA auC 16 w p l) (hp : ∀ g o, p = some ⟨g, o, none⟩ → g < w.heap.size) (hb : ∀ m ∈ l, BY m) (hG : GW w) :
    Calls Tryz.prog 38 #[.pointer (some ⟨b, 0, none⟩), .string g, .slice p l.length c] w fun e w' => e = .returned (.int .i64 (setE g l)) ∧ (∃ q', setR q g l q' ∧ Mq w' b mb eb q') ∧ Kp (QB b mb eb) w w' := by
  refine vc_setMods b g p l.length c w _ ⟨(gcheck_any g w hG).mono fun e w1 ⟨he, k1⟩ => ⟨_, he, .of_k0 k1, bsp_intro (fun h1 => ?_) (fun h1 => bsp_intro (fun h2 => ?_) (fun h2 => ?_))⟩⟩
  · have h1 : gnE g ≠ 0 := by simpa using h1
    have hE : setE g l = gnE g := by unfold setE; rw [if_pos h1]
    exact ⟨by rw [hE], ⟨q, .inl ⟨by rw [hE]; exact h1, rfl⟩, h.k0 k1⟩, k1.q0⟩
  · have h1 : gnE g = 0 := by simpa using h1
    have h2 : 8 < l.length := by simp at h2; omega
    have hE : setE g l = 9 := by unfold setE; rw [if_neg (by omega), if_pos h2]
    exact ⟨by rw [hE], ⟨q, .inl ⟨by rw [hE]; decide, rfl⟩, h.k0 k1⟩, k1.q0⟩
  have h1 : gnE g = 0 := by simpa using h1
  have h2 : ¬ 8 < l.length := by simp at h2; omega
  have hgs := gnE_sz39 h1
  refine ⟨(avalues_any p l.length c w1).mono fun e w2 ⟨⟨Bs, he, hc, hlt⟩, k2⟩ => ⟨_, he, .of_k0 k2, ?_⟩⟩
  have k02 := k1.trans k2
  refine ⟨(asorted_any l p c Bs w2 hc hlt (hR.k0 k02) (fun g o e => Nat.lt_of_lt_of_le (hp g o e) k02.size) (by omega)).mono fun e w3 ⟨⟨p', c', l', he, hpm, hs, ho⟩, k3⟩ => ⟨_, _, _, he, .of_k0 k3, ?_⟩⟩
  have k03 := k02.trans k3
  have hl' := hpm.length_eq
  have hb' : ∀ m ∈ l', BY m := fun m hm => hb m (hpm.subset hm)
  refine ⟨(aclone_any l' p' c' w3 (RowA.own ho auC_length (by decide)) (by omega)).mono fun e w4 hcl => ?_⟩
  obtain ⟨⟨p4, c4, he, ho4⟩, k4⟩ := hcl
  refine ⟨_, _, _, he, .of_k0 k4, ?_⟩
  refine ⟨(acompact_any l' p4 c4 w4 ho4 hb' (by omega)).mono fun e w5 ⟨⟨m, he, hm⟩, k5⟩ => ⟨_, _, _, he, .of_kp k5 (fun z hz => by cases hz), ?_⟩⟩
  have k35 : K0 w3 w5 := k4.fresh k5 (fun i hi e => by have := own_ge ho4 e; omega)
  have k05 := k03.trans k35
  have hadj := sorted_adj hs hb'
  have hnd : (l'.map auI).Nodup ↔ (l.map auI).Nodup := (hpm.map auI).nodup_iff
  refine bsp_intro (fun h3 => ?_) (fun h3 => ?_)
  · have h3 : m < l.length := by simp at h3; omega
    have hE : setE g l = 7 := by
      unfold setE
      rw [if_neg (by omega), if_neg h2, if_neg]
      intro hn
      rcases hm with ⟨rfl, _⟩ | ⟨_, ha⟩
      · omega
      · exact (hadj.1 ha) (hnd.2 hn)
    exact ⟨by rw [hE], ⟨q, .inl ⟨by rw [hE]; decide, rfl⟩, h.k0 k05⟩, k05.q0⟩
  have h3 : ¬ m < l.length := by simp at h3; omega
  have hE : setE g l = 0 := by
    unfold setE
    rw [if_neg (by omega), if_neg h2, if_pos]
    rcases hm with ⟨_, ha⟩ | ⟨hlt, _⟩
    · exact hnd.1 (Classical.byContradiction fun hn => ha (hadj.2 hn))
    · omega
  have h5 := h.k0 k05
  refine bsp_intro (fun h4 => ?_) (fun h4 => ?_)
  · have h4 : l'.length = 0 := by simpa using h4
    obtain ⟨w6, hbl, h6, k6⟩ := h5.delM (g := g) (by omega)
    refine ⟨some mb, h5.cM, w6, hbl, .of_kp k6 (fun z hz => by cases hz), by rw [hE], ⟨_, .inr (.inl ⟨hE, List.eq_nil_of_length_eq_zero (by omega), rfl⟩), h6⟩, k05.q0.trans (k6.qb (fun k e => .inr (.inl e)))⟩
  · have h4 : ¬ l'.length = 0 := by simpa using h4
    have hR' : RowA auC 16 w5 p' l' := (RowA.own ho auC_length (by decide)).k0 k35
    obtain ⟨w6, hu, h6, k6⟩ := h5.updM ⟨l', p', c'⟩ hR' (g := g) (by omega)
    refine ⟨some mb, h5.cM, bsp_intro (fun h => by cases h) (fun _ => ⟨some mb, h5.cM, w6, hu, .of_kp k6 (fun z hz => by cases hz), by rw [hE], ⟨_, .inr (.inr ⟨hE, fun e => h4 (by rw [hl', e]; rfl), ⟨l', p', c'⟩, hpm, hs, own_le ho, rfl⟩), h6⟩, k05.q0.trans (k6.qb (fun k e => .inr (.inl e)))⟩)⟩

end Go.Proofs.YtfacflbmlfbeeaaGreatDoor

/- The formulas of functions by the symbolic evaluator, and that each gives the call's contract. Written by a program (gen.py). No condition. -/
namespace Go.Proofs.YtfacflbmlfbeeaaGreatDoor
set_option maxRecDepth 100000
set_option linter.unusedVariables false

def VC_decide (b : Nat) (i : Nat → Int) (s : ByteArray) (a : Nat → Int) (now : Int) (st : Int) (rs : ByteArray) (w : World) (R : Ending → World → Prop) : Prop :=
 ∀ (n n_1 : Nat) (W : World),
 Loc w.heap.size
 [Blk.mk n_1 45
 (arrI IntKind.u8 a 16 0)
 2,
 Blk.mk n 32
 (arrI IntKind.u8 i 32 0)
 2]
 w W →
 CallsS Tryz.prog 75
 #[Value.pointer (some (Addr.mk b 0 none)), Value.string s,
 Value.agg
 (arrI IntKind.u8 a 16 0).toArray]
 W fun (e : Ending) (w' : World) =>
 ∃ (x : Bool),
 e = Ending.returned (Value.bool x) ∧
 KeptL [n_1, n] W w' ∧
 bsp (!x) (R (Ending.returned (Value.int IntKind.i64 20)) w')
 (∀ (W : World),
 Loc w.heap.size
 [Blk.mk n_1 45
 (arrI IntKind.u8 a 16 0)
 0,
 Blk.mk n 32
 (arrI IntKind.u8 i 32 0)
 0]
 w' W →
 ∃ (S : World → Prop),
 S W ∧
 ∃ (x : Option Nat),
 (∀ (w' : World), S w' → w'.cell? (Addr.mk b (0 + 4) none) = some (Value.map x)) ∧
 ∃ (f : Nat → Int),
 (∀ (w' : World),
 S w' →
 AtL w' n 0
 (arrI IntKind.u8 f 32 0)) ∧
 ∃ (f_1 : Nat → Int),
 ∃ (x_1 : ByteArray),
 ∃ (x_2 : ByteArray),
 ∃ (x_3 : Int),
 ∃ (x_4 : Int),
 ∃ (f_2 : Nat → Int),
 ∃ (x_5 : Int),
 ∃ (x_6 : ByteArray),
 ∃ (x_7 : Bool),
 ∃ (f_3 : Nat → Int),
 ∃ (x_8 : Int),
 ∃ (b_1 : Bool),
 (∀ (w' : World),
 S w' →
 LookP Tryz.prog 96 (Value.map x)
 (Value.agg
 (arrI IntKind.u8 f 32 0 ++ [Value.string s]).toArray)
 true
 (Value.tuple
 #[Value.agg
 (arrI IntKind.u8 f_1 32 0 ++ ([Value.string x_1,
 Value.string x_2, Value.int IntKind.i64 x_3, Value.int IntKind.i64 x_4] ++ arrI IntKind.u8 f_2 16 0 ++ ([Value.int IntKind.i64 x_5, Value.string x_6, Value.bool x_7] ++ arrI IntKind.u8 f_3 16 0 ++ [Value.int IntKind.i64 x_8]))).toArray,
 Value.bool b_1])
 w') ∧
 ∀ (n_2 : Nat) (w1 : World),
 NewB W
 (Obj.cells
 #[Value.int IntKind.u8 0, Value.int IntKind.u8 0, Value.int IntKind.u8 0,
 Value.int IntKind.u8 0, Value.int IntKind.u8 0, Value.int IntKind.u8 0,
 Value.int IntKind.u8 0, Value.int IntKind.u8 0, Value.int IntKind.u8 0,
 Value.int IntKind.u8 0, Value.int IntKind.u8 0, Value.int IntKind.u8 0,
 Value.int IntKind.u8 0, Value.int IntKind.u8 0, Value.int IntKind.u8 0,
 Value.int IntKind.u8 0, Value.int IntKind.u8 0, Value.int IntKind.u8 0,
 Value.int IntKind.u8 0, Value.int IntKind.u8 0, Value.int IntKind.u8 0,
 Value.int IntKind.u8 0, Value.int IntKind.u8 0, Value.int IntKind.u8 0,
 Value.int IntKind.u8 0, Value.int IntKind.u8 0, Value.int IntKind.u8 0,
 Value.int IntKind.u8 0, Value.int IntKind.u8 0, Value.int IntKind.u8 0,
 Value.int IntKind.u8 0, Value.int IntKind.u8 0, Value.string (ByteArray.mk #[]),
 Value.string (ByteArray.mk #[]), Value.int IntKind.i64 0, Value.int IntKind.i64 0,
 Value.int IntKind.u8 0, Value.int IntKind.u8 0, Value.int IntKind.u8 0,
 Value.int IntKind.u8 0, Value.int IntKind.u8 0, Value.int IntKind.u8 0,
 Value.int IntKind.u8 0, Value.int IntKind.u8 0, Value.int IntKind.u8 0,
 Value.int IntKind.u8 0, Value.int IntKind.u8 0, Value.int IntKind.u8 0,
 Value.int IntKind.u8 0, Value.int IntKind.u8 0, Value.int IntKind.u8 0,
 Value.int IntKind.u8 0, Value.int IntKind.i64 0, Value.string (ByteArray.mk #[]),
 Value.bool false, Value.int IntKind.u8 0, Value.int IntKind.u8 0,
 Value.int IntKind.u8 0, Value.int IntKind.u8 0, Value.int IntKind.u8 0,
 Value.int IntKind.u8 0, Value.int IntKind.u8 0, Value.int IntKind.u8 0,
 Value.int IntKind.u8 0, Value.int IntKind.u8 0, Value.int IntKind.u8 0,
 Value.int IntKind.u8 0, Value.int IntKind.u8 0, Value.int IntKind.u8 0,
 Value.int IntKind.u8 0, Value.int IntKind.u8 0, Value.int IntKind.i64 0]
 107)
 n_2 w1 →
 S w1 ∧
 WrL w1 n_2 0 72 ∧
 ∀ (w1_1 : World),
 PutB w1 n_2 0
 (arrI IntKind.u8 f_1 32 0 ++ ([Value.string x_1,
 Value.string x_2, Value.int IntKind.i64 x_3, Value.int IntKind.i64 x_4] ++ arrI IntKind.u8 f_2 16 0 ++ ([Value.int IntKind.i64 x_5, Value.string x_6, Value.bool x_7] ++ arrI IntKind.u8 f_3 16 0 ++ [Value.int IntKind.i64 x_8])))
 w1_1 →
 KeptL [n_1, n] W w1_1 ∧
 bsp (!b_1) (R (Ending.returned (Value.int IntKind.i64 8)) w1_1)
 (∃ (x : Int),
 w1_1.cell? (Addr.mk n_2 (0 + 35) none) = some (Value.int IntKind.i64 x) ∧
 bsp (x != 0) (R (Ending.returned (Value.int IntKind.i64 10)) w1_1)
 (∃ (f : Nat → Int),
 ∃ (x : ByteArray),
 ∃ (x_9 : ByteArray),
 ∃ (x_10 : Int),
 ∃ (x_11 : Int),
 ∃ (f_4 : Nat → Int),
 ∃ (x_12 : Int),
 ∃ (x_13 : ByteArray),
 ∃ (x_14 : Bool),
 ∃ (f_5 : Nat → Int),
 ∃ (x_15 : Int),
 AtL w1_1 n_2 0
 (arrI IntKind.u8 f 32 0 ++ ([Value.string x, Value.string x_9, Value.int IntKind.i64 x_10,
 Value.int IntKind.i64 x_11] ++ arrI IntKind.u8 f_4 16 0 ++ ([Value.int IntKind.i64 x_12,
 Value.string x_13, Value.bool x_14] ++ arrI IntKind.u8 f_5 16 0 ++ [Value.int IntKind.i64 x_15]))) ∧
 CallsS Tryz.prog 77
 #[Value.agg
 (arrI IntKind.u8 f 32 0 ++ ([Value.string x, Value.string x_9, Value.int IntKind.i64 x_10,
 Value.int IntKind.i64 x_11] ++ arrI IntKind.u8 f_4 16 0 ++ ([Value.int IntKind.i64 x_12,
 Value.string x_13, Value.bool x_14] ++ arrI IntKind.u8 f_5 16 0 ++ [Value.int IntKind.i64 x_15]))).toArray,
 Value.agg
 (arrI IntKind.u8 a 16 0).toArray,
 Value.int IntKind.i64 now]
 w1_1 fun (e : Ending) (w' : World) =>
 ∃ (x : Bool),
 e = Ending.returned (Value.bool x) ∧
 KeptL [n_1, n] w1_1 w' ∧
 bsp x (R (Ending.returned (Value.int IntKind.i64 25)) w')
 (∃ (f : Nat → Int),
 ∃ (x : ByteArray),
 ∃ (x_16 : ByteArray),
 ∃ (x_17 : Int),
 ∃ (x_18 : Int),
 ∃ (f_6 : Nat → Int),
 ∃ (x_19 : Int),
 ∃ (x_20 : ByteArray),
 AtL w' n_2 0
 (arrI IntKind.u8 f 32 0 ++ ([Value.string x,
 Value.string x_16, Value.int IntKind.i64 x_17,
 Value.int IntKind.i64 x_18] ++ arrI IntKind.u8 f_6 16 0 ++ [Value.int IntKind.i64 x_19, Value.string x_20])) ∧
 CallsS Tryz.prog 70
 #[Value.pointer (some (Addr.mk b 0 none)),
 Value.agg
 (arrI IntKind.u8 f 32 0 ++ ([Value.string x,
 Value.string x_16, Value.int IntKind.i64 x_17,
 Value.int IntKind.i64 x_18] ++ arrI IntKind.u8 f_6 16 0 ++ [Value.int IntKind.i64 x_19, Value.string x_20])).toArray,
 Value.agg
 (arrI IntKind.u8 a 16 0).toArray,
 Value.int IntKind.i64 now, Value.int IntKind.i64 st,
 Value.string rs]
 w' fun (e : Ending) (w'_1 : World) =>
 ∃ (f : Nat → Int),
 ∃ (x : ByteArray),
 ∃ (x_21 : ByteArray),
 ∃ (x_22 : Int),
 ∃ (x_23 : Int),
 ∃ (f_7 : Nat → Int),
 ∃ (x_24 : Int),
 ∃ (x_25 : ByteArray),
 e =
 Ending.returned
 (Value.agg
 (arrI IntKind.u8 f 32 0 ++ ([Value.string x, Value.string x_21,
 Value.int IntKind.i64 x_22,
 Value.int IntKind.i64 x_23] ++ arrI IntKind.u8 f_7 16 0 ++ [Value.int IntKind.i64 x_24,
 Value.string x_25])).toArray) ∧
 KeptL [n_1, n] w' w'_1 ∧
 R
 (Ending.returned (Value.int IntKind.i64 0))
 w'_1))))
theorem vc_decide (b : Nat) (i : Nat → Int) (s : ByteArray) (a : Nat → Int) (now : Int) (st : Int) (rs : ByteArray) (w : World) (R : Ending → World → Prop) (h : VC_decide b i s a now st rs w R) : Calls Tryz.prog 50 ([Value.pointer
    (some { block := b, off := 0 }),
  Value.agg (arrI IntKind.u8 i 32 0).toArray, Value.string s, Value.agg (arrI IntKind.u8 a 16 0).toArray,
  Value.int IntKind.i64 now, Value.int IntKind.i64 st, Value.string rs] : List Value).toArray w R := by
  have e : execR2 { P := Tryz.prog, loops := [], pur := pur1, tails := [(3, 11)], joins := [], boxes := [] } Tryz.f50.results.toList R (Tryz.f50.body.getD .skip) (initF [Value.pointer
    (some { block := b, off := 0 }),
  Value.agg (arrI IntKind.u8 i 32 0).toArray, Value.string s, Value.agg (arrI IntKind.u8 a 16 0).toArray,
  Value.int IntKind.i64 now, Value.int IntKind.i64 st,
  Value.string
    rs] (Tryz.f50.ntmps - ([Value.pointer (some { block := b, off := 0 }), Value.agg (arrI IntKind.u8 i 32 0).toArray,
  Value.string s, Value.agg (arrI IntKind.u8 a 16 0).toArray, Value.int IntKind.i64 now, Value.int IntKind.i64 st,
  Value.string rs] : List Value).length)) w = VC_decide b i s a now st rs w R := by kernel_rfl
  have hb : Tryz.f50.body = some (Tryz.f50.body.getD .skip) := by kernel_rfl
  exact calls_of_exec2' (P := Tryz.prog) (fn := Tryz.f50) (c := Tryz.f50.body.getD .skip) (args := [Value.pointer
    (some { block := b, off := 0 }),
  Value.agg (arrI IntKind.u8 i 32 0).toArray, Value.string s, Value.agg (arrI IntKind.u8 a 16 0).toArray,
  Value.int IntKind.i64 now, Value.int IntKind.i64 st, Value.string rs]) (w := w) (R := R) pur1_ok Tryz.func50 hb e h

def VC_finish (b : Nat) (id : Nat → Int) (mo : Nat → Int) (g : ByteArray) (t : ByteArray) (r : Int) (st : Int) (de : Int) (rs : ByteArray) (a : Nat → Int) (now : Int) (sn : Int) (rn : ByteArray) (w : World) (R : Ending → World → Prop) : Prop :=
 ∀ (n n_1 n_2 : Nat) (W : World),
 Loc w.heap.size
 [Blk.mk n_2 48
 [Value.int IntKind.u8 0, Value.int IntKind.u8 0, Value.int IntKind.u8 0, Value.int IntKind.u8 0,
 Value.int IntKind.u8 0, Value.int IntKind.u8 0, Value.int IntKind.u8 0, Value.int IntKind.u8 0,
 Value.int IntKind.u8 0, Value.int IntKind.u8 0, Value.int IntKind.u8 0, Value.int IntKind.u8 0,
 Value.int IntKind.u8 0, Value.int IntKind.u8 0, Value.int IntKind.u8 0, Value.int IntKind.u8 0,
 Value.int IntKind.u8 0, Value.int IntKind.u8 0, Value.int IntKind.u8 0, Value.int IntKind.u8 0,
 Value.int IntKind.u8 0, Value.int IntKind.u8 0, Value.int IntKind.u8 0, Value.int IntKind.u8 0,
 Value.int IntKind.u8 0, Value.int IntKind.u8 0, Value.int IntKind.u8 0, Value.int IntKind.u8 0,
 Value.int IntKind.u8 0, Value.int IntKind.u8 0, Value.int IntKind.u8 0, Value.int IntKind.u8 0,
 Value.string (ByteArray.mk #[]), Value.string (ByteArray.mk #[]), Value.int IntKind.i64 0,
 Value.int IntKind.i64 0, Value.int IntKind.u8 0, Value.int IntKind.u8 0, Value.int IntKind.u8 0,
 Value.int IntKind.u8 0, Value.int IntKind.u8 0, Value.int IntKind.u8 0, Value.int IntKind.u8 0,
 Value.int IntKind.u8 0, Value.int IntKind.u8 0, Value.int IntKind.u8 0, Value.int IntKind.u8 0,
 Value.int IntKind.u8 0, Value.int IntKind.u8 0, Value.int IntKind.u8 0, Value.int IntKind.u8 0,
 Value.int IntKind.u8 0, Value.int IntKind.i64 0, Value.string (ByteArray.mk #[])]
 2,
 Blk.mk n_1 45
 (arrI IntKind.u8 a 16 0)
 2,
 Blk.mk n 48
 (arrI IntKind.u8 id 32 0 ++ ([Value.string g, Value.string t,
 Value.int IntKind.i64 r, Value.int IntKind.i64 st] ++ arrI IntKind.u8 mo 16 0 ++ [Value.int IntKind.i64 de, Value.string rs]))
 2]
 w W →
 ∃ (S : World → Prop),
 S W ∧
 ∃ (f : Nat → Int),
 (∀ (w' : World),
 S w' →
 AtL w' n_1 0
 (arrI IntKind.u8 f 16 0)) ∧
 ((∃ (u : Value), W.cell? (Addr.mk n (0 + 35) none) = some u) ∧ W.frozen? (Addr.mk n (0 + 35) none) = false) ∧
 ∀ (w1 : World),
 PutB W n (0 + 35) [Value.int IntKind.i64 sn] w1 →
 S w1 ∧
 WrL w1 n (0 + 36) 16 ∧
 ∀ (w1_1 : World),
 PutB w1 n (0 + 36)
 (arrI IntKind.u8 f 16 0)
 w1_1 →
 ((∃ (u : Value), w1_1.cell? (Addr.mk n (0 + 52) none) = some u) ∧
 w1_1.frozen? (Addr.mk n (0 + 52) none) = false) ∧
 ∀ (w1 : World),
 PutB w1_1 n (0 + 52) [Value.int IntKind.i64 now] w1 →
 ((∃ (u : Value), w1.cell? (Addr.mk n (0 + 53) none) = some u) ∧
 w1.frozen? (Addr.mk n (0 + 53) none) = false) ∧
 ∀ (w1_2 : World),
 PutB w1 n (0 + 53) [Value.string rn] w1_2 →
 KeptL [n_2, n_1] W w1_2 ∧
 ∃ (x : Option Nat),
 (∀ (W : World),
 Loc w.heap.size
 [Blk.mk n_2 48
 [Value.int IntKind.u8 0, Value.int IntKind.u8 0, Value.int IntKind.u8 0,
 Value.int IntKind.u8 0, Value.int IntKind.u8 0, Value.int IntKind.u8 0,
 Value.int IntKind.u8 0, Value.int IntKind.u8 0, Value.int IntKind.u8 0,
 Value.int IntKind.u8 0, Value.int IntKind.u8 0, Value.int IntKind.u8 0,
 Value.int IntKind.u8 0, Value.int IntKind.u8 0, Value.int IntKind.u8 0,
 Value.int IntKind.u8 0, Value.int IntKind.u8 0, Value.int IntKind.u8 0,
 Value.int IntKind.u8 0, Value.int IntKind.u8 0, Value.int IntKind.u8 0,
 Value.int IntKind.u8 0, Value.int IntKind.u8 0, Value.int IntKind.u8 0,
 Value.int IntKind.u8 0, Value.int IntKind.u8 0, Value.int IntKind.u8 0,
 Value.int IntKind.u8 0, Value.int IntKind.u8 0, Value.int IntKind.u8 0,
 Value.int IntKind.u8 0, Value.int IntKind.u8 0, Value.string (ByteArray.mk #[]),
 Value.string (ByteArray.mk #[]), Value.int IntKind.i64 0, Value.int IntKind.i64 0,
 Value.int IntKind.u8 0, Value.int IntKind.u8 0, Value.int IntKind.u8 0,
 Value.int IntKind.u8 0, Value.int IntKind.u8 0, Value.int IntKind.u8 0,
 Value.int IntKind.u8 0, Value.int IntKind.u8 0, Value.int IntKind.u8 0,
 Value.int IntKind.u8 0, Value.int IntKind.u8 0, Value.int IntKind.u8 0,
 Value.int IntKind.u8 0, Value.int IntKind.u8 0, Value.int IntKind.u8 0,
 Value.int IntKind.u8 0, Value.int IntKind.i64 0, Value.string (ByteArray.mk #[])]
 0,
 Blk.mk n_1 45
 (arrI IntKind.u8 a 16 0)
 0]
 w1_2 W →
 W.cell? (Addr.mk b (0 + 4) none) = some (Value.map x)) ∧
 ∃ (f : Nat → Int),
 (∀ (W : World),
 Loc w.heap.size
 [Blk.mk n_2 48
 [Value.int IntKind.u8 0, Value.int IntKind.u8 0, Value.int IntKind.u8 0,
 Value.int IntKind.u8 0, Value.int IntKind.u8 0, Value.int IntKind.u8 0,
 Value.int IntKind.u8 0, Value.int IntKind.u8 0, Value.int IntKind.u8 0,
 Value.int IntKind.u8 0, Value.int IntKind.u8 0, Value.int IntKind.u8 0,
 Value.int IntKind.u8 0, Value.int IntKind.u8 0, Value.int IntKind.u8 0,
 Value.int IntKind.u8 0, Value.int IntKind.u8 0, Value.int IntKind.u8 0,
 Value.int IntKind.u8 0, Value.int IntKind.u8 0, Value.int IntKind.u8 0,
 Value.int IntKind.u8 0, Value.int IntKind.u8 0, Value.int IntKind.u8 0,
 Value.int IntKind.u8 0, Value.int IntKind.u8 0, Value.int IntKind.u8 0,
 Value.int IntKind.u8 0, Value.int IntKind.u8 0, Value.int IntKind.u8 0,
 Value.int IntKind.u8 0, Value.int IntKind.u8 0, Value.string (ByteArray.mk #[]),
 Value.string (ByteArray.mk #[]), Value.int IntKind.i64 0, Value.int IntKind.i64 0,
 Value.int IntKind.u8 0, Value.int IntKind.u8 0, Value.int IntKind.u8 0,
 Value.int IntKind.u8 0, Value.int IntKind.u8 0, Value.int IntKind.u8 0,
 Value.int IntKind.u8 0, Value.int IntKind.u8 0, Value.int IntKind.u8 0,
 Value.int IntKind.u8 0, Value.int IntKind.u8 0, Value.int IntKind.u8 0,
 Value.int IntKind.u8 0, Value.int IntKind.u8 0, Value.int IntKind.u8 0,
 Value.int IntKind.u8 0, Value.int IntKind.i64 0, Value.string (ByteArray.mk #[])]
 0,
 Blk.mk n_1 45
 (arrI IntKind.u8 a 16 0)
 0]
 w1_2 W →
 AtL W n 0
 (arrI IntKind.u8 f 32 0)) ∧
 ∃ (x_1 : ByteArray),
 (∀ (W : World),
 Loc w.heap.size
 [Blk.mk n_2 48
 [Value.int IntKind.u8 0, Value.int IntKind.u8 0, Value.int IntKind.u8 0,
 Value.int IntKind.u8 0, Value.int IntKind.u8 0, Value.int IntKind.u8 0,
 Value.int IntKind.u8 0, Value.int IntKind.u8 0, Value.int IntKind.u8 0,
 Value.int IntKind.u8 0, Value.int IntKind.u8 0, Value.int IntKind.u8 0,
 Value.int IntKind.u8 0, Value.int IntKind.u8 0, Value.int IntKind.u8 0,
 Value.int IntKind.u8 0, Value.int IntKind.u8 0, Value.int IntKind.u8 0,
 Value.int IntKind.u8 0, Value.int IntKind.u8 0, Value.int IntKind.u8 0,
 Value.int IntKind.u8 0, Value.int IntKind.u8 0, Value.int IntKind.u8 0,
 Value.int IntKind.u8 0, Value.int IntKind.u8 0, Value.int IntKind.u8 0,
 Value.int IntKind.u8 0, Value.int IntKind.u8 0, Value.int IntKind.u8 0,
 Value.int IntKind.u8 0, Value.int IntKind.u8 0, Value.string (ByteArray.mk #[]),
 Value.string (ByteArray.mk #[]), Value.int IntKind.i64 0, Value.int IntKind.i64 0,
 Value.int IntKind.u8 0, Value.int IntKind.u8 0, Value.int IntKind.u8 0,
 Value.int IntKind.u8 0, Value.int IntKind.u8 0, Value.int IntKind.u8 0,
 Value.int IntKind.u8 0, Value.int IntKind.u8 0, Value.int IntKind.u8 0,
 Value.int IntKind.u8 0, Value.int IntKind.u8 0, Value.int IntKind.u8 0,
 Value.int IntKind.u8 0, Value.int IntKind.u8 0, Value.int IntKind.u8 0,
 Value.int IntKind.u8 0, Value.int IntKind.i64 0, Value.string (ByteArray.mk #[])]
 0,
 Blk.mk n_1 45
 (arrI IntKind.u8 a 16 0)
 0]
 w1_2 W →
 W.cell? (Addr.mk n (0 + 32) none) = some (Value.string x_1)) ∧
 ∃ (f_1 : Nat → Int),
 ∃ (x_2 : ByteArray),
 ∃ (x_3 : ByteArray),
 ∃ (x_4 : Int),
 ∃ (x_5 : Int),
 ∃ (f_2 : Nat → Int),
 ∃ (x_6 : Int),
 ∃ (x_7 : ByteArray),
 (∀ (W : World),
 Loc w.heap.size
 [Blk.mk n_2 48
 [Value.int IntKind.u8 0, Value.int IntKind.u8 0, Value.int IntKind.u8 0,
 Value.int IntKind.u8 0, Value.int IntKind.u8 0, Value.int IntKind.u8 0,
 Value.int IntKind.u8 0, Value.int IntKind.u8 0, Value.int IntKind.u8 0,
 Value.int IntKind.u8 0, Value.int IntKind.u8 0, Value.int IntKind.u8 0,
 Value.int IntKind.u8 0, Value.int IntKind.u8 0, Value.int IntKind.u8 0,
 Value.int IntKind.u8 0, Value.int IntKind.u8 0, Value.int IntKind.u8 0,
 Value.int IntKind.u8 0, Value.int IntKind.u8 0, Value.int IntKind.u8 0,
 Value.int IntKind.u8 0, Value.int IntKind.u8 0, Value.int IntKind.u8 0,
 Value.int IntKind.u8 0, Value.int IntKind.u8 0, Value.int IntKind.u8 0,
 Value.int IntKind.u8 0, Value.int IntKind.u8 0, Value.int IntKind.u8 0,
 Value.int IntKind.u8 0, Value.int IntKind.u8 0,
 Value.string (ByteArray.mk #[]), Value.string (ByteArray.mk #[]),
 Value.int IntKind.i64 0, Value.int IntKind.i64 0, Value.int IntKind.u8 0,
 Value.int IntKind.u8 0, Value.int IntKind.u8 0, Value.int IntKind.u8 0,
 Value.int IntKind.u8 0, Value.int IntKind.u8 0, Value.int IntKind.u8 0,
 Value.int IntKind.u8 0, Value.int IntKind.u8 0, Value.int IntKind.u8 0,
 Value.int IntKind.u8 0, Value.int IntKind.u8 0, Value.int IntKind.u8 0,
 Value.int IntKind.u8 0, Value.int IntKind.u8 0, Value.int IntKind.u8 0,
 Value.int IntKind.i64 0, Value.string (ByteArray.mk #[])]
 0,
 Blk.mk n_1 45
 (arrI IntKind.u8 a 16 0)
 0]
 w1_2 W →
 AtL W n 0
 (arrI IntKind.u8 f_1 32 0 ++ ([Value.string x_2,
 Value.string x_3, Value.int IntKind.i64 x_4, Value.int IntKind.i64 x_5] ++ arrI IntKind.u8 f_2 16 0 ++ [Value.int IntKind.i64 x_6, Value.string x_7]))) ∧
 ∀ (W : World),
 Loc w.heap.size
 [Blk.mk n_2 48
 [Value.int IntKind.u8 0, Value.int IntKind.u8 0, Value.int IntKind.u8 0,
 Value.int IntKind.u8 0, Value.int IntKind.u8 0, Value.int IntKind.u8 0,
 Value.int IntKind.u8 0, Value.int IntKind.u8 0, Value.int IntKind.u8 0,
 Value.int IntKind.u8 0, Value.int IntKind.u8 0, Value.int IntKind.u8 0,
 Value.int IntKind.u8 0, Value.int IntKind.u8 0, Value.int IntKind.u8 0,
 Value.int IntKind.u8 0, Value.int IntKind.u8 0, Value.int IntKind.u8 0,
 Value.int IntKind.u8 0, Value.int IntKind.u8 0, Value.int IntKind.u8 0,
 Value.int IntKind.u8 0, Value.int IntKind.u8 0, Value.int IntKind.u8 0,
 Value.int IntKind.u8 0, Value.int IntKind.u8 0, Value.int IntKind.u8 0,
 Value.int IntKind.u8 0, Value.int IntKind.u8 0, Value.int IntKind.u8 0,
 Value.int IntKind.u8 0, Value.int IntKind.u8 0,
 Value.string (ByteArray.mk #[]), Value.string (ByteArray.mk #[]),
 Value.int IntKind.i64 0, Value.int IntKind.i64 0, Value.int IntKind.u8 0,
 Value.int IntKind.u8 0, Value.int IntKind.u8 0, Value.int IntKind.u8 0,
 Value.int IntKind.u8 0, Value.int IntKind.u8 0, Value.int IntKind.u8 0,
 Value.int IntKind.u8 0, Value.int IntKind.u8 0, Value.int IntKind.u8 0,
 Value.int IntKind.u8 0, Value.int IntKind.u8 0, Value.int IntKind.u8 0,
 Value.int IntKind.u8 0, Value.int IntKind.u8 0, Value.int IntKind.u8 0,
 Value.int IntKind.i64 0, Value.string (ByteArray.mk #[])]
 0,
 Blk.mk n_1 45
 (arrI IntKind.u8 a 16 0)
 0]
 w1_2 W →
 ∃ (w1 : World),
 UpdP Tryz.prog 96 (Value.map x)
 (Value.agg
 (arrI IntKind.u8 f 32 0 ++ [Value.string x_1]).toArray)
 (Value.agg
 (arrI IntKind.u8 f_1 32 0 ++ ([Value.string x_2, Value.string x_3, Value.int IntKind.i64 x_4,
 Value.int IntKind.i64 x_5] ++ arrI IntKind.u8 f_2 16 0 ++ [Value.int IntKind.i64 x_6, Value.string x_7,
 Value.bool false, Value.int IntKind.u8 0, Value.int IntKind.u8 0,
 Value.int IntKind.u8 0, Value.int IntKind.u8 0, Value.int IntKind.u8 0,
 Value.int IntKind.u8 0, Value.int IntKind.u8 0, Value.int IntKind.u8 0,
 Value.int IntKind.u8 0, Value.int IntKind.u8 0, Value.int IntKind.u8 0,
 Value.int IntKind.u8 0, Value.int IntKind.u8 0, Value.int IntKind.u8 0,
 Value.int IntKind.u8 0, Value.int IntKind.u8 0, Value.int IntKind.i64 0])).toArray)
 W w1 ∧
 KeptL [n_2, n_1] W w1 ∧
 ∃ (x : Int),
 w1.cell? (Addr.mk b (0 + 2) none) = some (Value.int IntKind.i64 x) ∧
 ((∃ (u : Value), w1.cell? (Addr.mk b (0 + 2) none) = some u) ∧
 w1.frozen? (Addr.mk b (0 + 2) none) = false) ∧
 ∀ (w1_3 : World),
 PutB w1 b (0 + 2) [Value.int IntKind.i64 (IntKind.i64.wrap (x - 1))] w1_3 →
 KeptL [n_2, n_1] w1 w1_3 ∧
 ∃ (f : Nat → Int),
 ∃ (x : ByteArray),
 ∃ (x_8 : ByteArray),
 ∃ (x_9 : Int),
 ∃ (x_10 : Int),
 ∃ (f_3 : Nat → Int),
 ∃ (x_11 : Int),
 ∃ (x_12 : ByteArray),
 AtL w1_3 n 0
 (arrI IntKind.u8 f 32 0 ++ ([Value.string x, Value.string x_8, Value.int IntKind.i64 x_9,
 Value.int IntKind.i64 x_10] ++ arrI IntKind.u8 f_3 16 0 ++ [Value.int IntKind.i64 x_11,
 Value.string x_12])) ∧
 ∀ (W : World),
 Loc w.heap.size
 [Blk.mk n_2 48
 (arrI IntKind.u8 f 32 0 ++ ([Value.string x, Value.string x_8,
 Value.int IntKind.i64 x_9, Value.int IntKind.i64 x_10] ++ arrI IntKind.u8 f_3 16 0 ++ [Value.int IntKind.i64 x_11,
 Value.string x_12]))
 (wrM 0),
 Blk.mk n_1 45
 (arrI IntKind.u8 a 16 0)
 0]
 w1_3 W →
 R
 (Ending.returned
 (Value.agg
 (arrI IntKind.u8 f 32 0 ++ ([Value.string x, Value.string x_8,
 Value.int IntKind.i64 x_9, Value.int IntKind.i64 x_10] ++ arrI IntKind.u8 f_3 16 0 ++ [Value.int IntKind.i64 x_11,
 Value.string x_12])).toArray))
 W
theorem vc_finish (b : Nat) (id : Nat → Int) (mo : Nat → Int) (g : ByteArray) (t : ByteArray) (r : Int) (st : Int) (de : Int) (rs : ByteArray) (a : Nat → Int) (now : Int) (sn : Int) (rn : ByteArray) (w : World) (R : Ending → World → Prop) (h : VC_finish b id mo g t r st de rs a now sn rn w R) : Calls Tryz.prog 70 ([Value.pointer
    (some { block := b, off := 0 }),
  Value.agg
    (arrI IntKind.u8 id 32 0 ++
        ([Value.string g, Value.string t, Value.int IntKind.i64 r, Value.int IntKind.i64 st] ++
          (arrI IntKind.u8 mo 16 0 ++ [Value.int IntKind.i64 de, Value.string rs]))).toArray,
  Value.agg (arrI IntKind.u8 a 16 0).toArray, Value.int IntKind.i64 now, Value.int IntKind.i64 sn,
  Value.string rn] : List Value).toArray w R := by
  have e : execR2 { P := Tryz.prog, loops := [], pur := pur1, tails := [(1, 5), (2, 11)], joins := [], boxes := [] } Tryz.f70.results.toList R (Tryz.f70.body.getD .skip) (initF [Value.pointer
    (some { block := b, off := 0 }),
  Value.agg
    (arrI IntKind.u8 id 32 0 ++
        ([Value.string g, Value.string t, Value.int IntKind.i64 r, Value.int IntKind.i64 st] ++
          (arrI IntKind.u8 mo 16 0 ++ [Value.int IntKind.i64 de, Value.string rs]))).toArray,
  Value.agg (arrI IntKind.u8 a 16 0).toArray, Value.int IntKind.i64 now, Value.int IntKind.i64 sn,
  Value.string
    rn] (Tryz.f70.ntmps - ([Value.pointer (some { block := b, off := 0 }),
  Value.agg
    (arrI IntKind.u8 id 32 0 ++
        ([Value.string g, Value.string t, Value.int IntKind.i64 r, Value.int IntKind.i64 st] ++
          (arrI IntKind.u8 mo 16 0 ++ [Value.int IntKind.i64 de, Value.string rs]))).toArray,
  Value.agg (arrI IntKind.u8 a 16 0).toArray, Value.int IntKind.i64 now, Value.int IntKind.i64 sn,
  Value.string rn] : List Value).length)) w = VC_finish b id mo g t r st de rs a now sn rn w R := by kernel_rfl
  have hb : Tryz.f70.body = some (Tryz.f70.body.getD .skip) := by kernel_rfl
  exact calls_of_exec2' (P := Tryz.prog) (fn := Tryz.f70) (c := Tryz.f70.body.getD .skip) (args := [Value.pointer
    (some { block := b, off := 0 }),
  Value.agg
    (arrI IntKind.u8 id 32 0 ++
        ([Value.string g, Value.string t, Value.int IntKind.i64 r, Value.int IntKind.i64 st] ++
          (arrI IntKind.u8 mo 16 0 ++ [Value.int IntKind.i64 de, Value.string rs]))).toArray,
  Value.agg (arrI IntKind.u8 a 16 0).toArray, Value.int IntKind.i64 now, Value.int IntKind.i64 sn,
  Value.string rn]) (w := w) (R := R) pur1_ok Tryz.func70 hb e h

def VC_approve (b : Nat) (i : Nat → Int) (s : ByteArray) (a : Nat → Int) (now : Int) (w : World) (R : Ending → World → Prop) : Prop :=
 ∀ (n n_1 n_2 : Nat) (W : World),
 Loc w.heap.size
 [Blk.mk n_2 42
 [Value.int IntKind.i64 0, Value.int IntKind.u8 0, Value.int IntKind.u8 0, Value.int IntKind.u8 0,
 Value.int IntKind.u8 0, Value.int IntKind.u8 0, Value.int IntKind.u8 0, Value.int IntKind.u8 0,
 Value.int IntKind.u8 0, Value.int IntKind.u8 0, Value.int IntKind.u8 0, Value.int IntKind.u8 0,
 Value.int IntKind.u8 0, Value.int IntKind.u8 0, Value.int IntKind.u8 0, Value.int IntKind.u8 0,
 Value.int IntKind.u8 0, Value.int IntKind.u8 0, Value.int IntKind.u8 0, Value.int IntKind.u8 0,
 Value.int IntKind.u8 0, Value.int IntKind.u8 0, Value.int IntKind.u8 0, Value.int IntKind.u8 0,
 Value.int IntKind.u8 0, Value.int IntKind.u8 0, Value.int IntKind.u8 0, Value.int IntKind.u8 0,
 Value.int IntKind.u8 0, Value.int IntKind.u8 0, Value.int IntKind.u8 0, Value.int IntKind.u8 0,
 Value.int IntKind.u8 0, Value.string (ByteArray.mk #[]), Value.int IntKind.i64 0, Value.bool false,
 Value.slice none 0 0, Value.string (ByteArray.mk #[]), Value.int IntKind.i64 0, Value.int IntKind.i64 0,
 Value.int IntKind.u8 0, Value.int IntKind.u8 0, Value.int IntKind.u8 0, Value.int IntKind.u8 0,
 Value.int IntKind.u8 0, Value.int IntKind.u8 0, Value.int IntKind.u8 0, Value.int IntKind.u8 0,
 Value.int IntKind.u8 0, Value.int IntKind.u8 0, Value.int IntKind.u8 0, Value.int IntKind.u8 0,
 Value.int IntKind.u8 0, Value.int IntKind.u8 0, Value.int IntKind.u8 0, Value.int IntKind.u8 0]
 2,
 Blk.mk n_1 45
 (arrI IntKind.u8 a 16 0)
 2,
 Blk.mk n 32
 (arrI IntKind.u8 i 32 0)
 2]
 w W →
 CallsS Tryz.prog 48 #[Value.pointer (some (Addr.mk b 0 none)), Value.int IntKind.i64 now] W
 fun (e : Ending) (w' : World) =>
 ∃ (x : Int),
 e = Ending.returned (Value.int IntKind.i64 x) ∧
 KeptL [n_2, n_1, n] W w' ∧
 bsp (x != 0)
 (∀ (W : World),
 Loc w.heap.size
 [Blk.mk n_2 42
 [Value.int IntKind.i64 0, Value.int IntKind.u8 0, Value.int IntKind.u8 0, Value.int IntKind.u8 0,
 Value.int IntKind.u8 0, Value.int IntKind.u8 0, Value.int IntKind.u8 0, Value.int IntKind.u8 0,
 Value.int IntKind.u8 0, Value.int IntKind.u8 0, Value.int IntKind.u8 0, Value.int IntKind.u8 0,
 Value.int IntKind.u8 0, Value.int IntKind.u8 0, Value.int IntKind.u8 0, Value.int IntKind.u8 0,
 Value.int IntKind.u8 0, Value.int IntKind.u8 0, Value.int IntKind.u8 0, Value.int IntKind.u8 0,
 Value.int IntKind.u8 0, Value.int IntKind.u8 0, Value.int IntKind.u8 0, Value.int IntKind.u8 0,
 Value.int IntKind.u8 0, Value.int IntKind.u8 0, Value.int IntKind.u8 0, Value.int IntKind.u8 0,
 Value.int IntKind.u8 0, Value.int IntKind.u8 0, Value.int IntKind.u8 0, Value.int IntKind.u8 0,
 Value.int IntKind.u8 0, Value.string (ByteArray.mk #[]), Value.int IntKind.i64 0, Value.bool false,
 Value.slice none 0 0, Value.string (ByteArray.mk #[]), Value.int IntKind.i64 0, Value.int IntKind.i64 0,
 Value.int IntKind.u8 0, Value.int IntKind.u8 0, Value.int IntKind.u8 0, Value.int IntKind.u8 0,
 Value.int IntKind.u8 0, Value.int IntKind.u8 0, Value.int IntKind.u8 0, Value.int IntKind.u8 0,
 Value.int IntKind.u8 0, Value.int IntKind.u8 0, Value.int IntKind.u8 0, Value.int IntKind.u8 0,
 Value.int IntKind.u8 0, Value.int IntKind.u8 0, Value.int IntKind.u8 0, Value.int IntKind.u8 0]
 (wrM 0),
 Blk.mk n_1 45
 (arrI IntKind.u8 a 16 0)
 0,
 Blk.mk n 32
 (arrI IntKind.u8 i 32 0)
 0]
 w' W →
 R
 (Ending.returned
 (Value.tuple
 #[Value.agg
 #[Value.int IntKind.i64 0, Value.int IntKind.u8 0, Value.int IntKind.u8 0, Value.int IntKind.u8 0,
 Value.int IntKind.u8 0, Value.int IntKind.u8 0, Value.int IntKind.u8 0, Value.int IntKind.u8 0,
 Value.int IntKind.u8 0, Value.int IntKind.u8 0, Value.int IntKind.u8 0, Value.int IntKind.u8 0,
 Value.int IntKind.u8 0, Value.int IntKind.u8 0, Value.int IntKind.u8 0, Value.int IntKind.u8 0,
 Value.int IntKind.u8 0, Value.int IntKind.u8 0, Value.int IntKind.u8 0, Value.int IntKind.u8 0,
 Value.int IntKind.u8 0, Value.int IntKind.u8 0, Value.int IntKind.u8 0, Value.int IntKind.u8 0,
 Value.int IntKind.u8 0, Value.int IntKind.u8 0, Value.int IntKind.u8 0, Value.int IntKind.u8 0,
 Value.int IntKind.u8 0, Value.int IntKind.u8 0, Value.int IntKind.u8 0, Value.int IntKind.u8 0,
 Value.int IntKind.u8 0, Value.string (ByteArray.mk #[]), Value.int IntKind.i64 0, Value.bool false,
 Value.slice none 0 0, Value.string (ByteArray.mk #[]), Value.int IntKind.i64 0, Value.int IntKind.i64 0,
 Value.int IntKind.u8 0, Value.int IntKind.u8 0, Value.int IntKind.u8 0, Value.int IntKind.u8 0,
 Value.int IntKind.u8 0, Value.int IntKind.u8 0, Value.int IntKind.u8 0, Value.int IntKind.u8 0,
 Value.int IntKind.u8 0, Value.int IntKind.u8 0, Value.int IntKind.u8 0, Value.int IntKind.u8 0,
 Value.int IntKind.u8 0, Value.int IntKind.u8 0, Value.int IntKind.u8 0, Value.int IntKind.u8 0],
 Value.int IntKind.i64 x]))
 W)
 (CallsS Tryz.prog 50
 #[Value.pointer (some (Addr.mk b 0 none)),
 Value.agg
 (arrI IntKind.u8 i 32 0).toArray,
 Value.string s,
 Value.agg
 (arrI IntKind.u8 a 16 0).toArray,
 Value.int IntKind.i64 now, Value.int IntKind.i64 1, Value.string (ByteArray.mk #[])]
 w' fun (e : Ending) (w'_1 : World) =>
 ∃ (x : Int),
 e = Ending.returned (Value.int IntKind.i64 x) ∧
 KeptL [n_2, n_1, n] w' w'_1 ∧
 bsp (x != 0)
 (∀ (W : World),
 Loc w.heap.size
 [Blk.mk n_2 42
 [Value.int IntKind.i64 0, Value.int IntKind.u8 0, Value.int IntKind.u8 0, Value.int IntKind.u8 0,
 Value.int IntKind.u8 0, Value.int IntKind.u8 0, Value.int IntKind.u8 0, Value.int IntKind.u8 0,
 Value.int IntKind.u8 0, Value.int IntKind.u8 0, Value.int IntKind.u8 0, Value.int IntKind.u8 0,
 Value.int IntKind.u8 0, Value.int IntKind.u8 0, Value.int IntKind.u8 0, Value.int IntKind.u8 0,
 Value.int IntKind.u8 0, Value.int IntKind.u8 0, Value.int IntKind.u8 0, Value.int IntKind.u8 0,
 Value.int IntKind.u8 0, Value.int IntKind.u8 0, Value.int IntKind.u8 0, Value.int IntKind.u8 0,
 Value.int IntKind.u8 0, Value.int IntKind.u8 0, Value.int IntKind.u8 0, Value.int IntKind.u8 0,
 Value.int IntKind.u8 0, Value.int IntKind.u8 0, Value.int IntKind.u8 0, Value.int IntKind.u8 0,
 Value.int IntKind.u8 0, Value.string (ByteArray.mk #[]), Value.int IntKind.i64 0, Value.bool false,
 Value.slice none 0 0, Value.string (ByteArray.mk #[]), Value.int IntKind.i64 0,
 Value.int IntKind.i64 0, Value.int IntKind.u8 0, Value.int IntKind.u8 0, Value.int IntKind.u8 0,
 Value.int IntKind.u8 0, Value.int IntKind.u8 0, Value.int IntKind.u8 0, Value.int IntKind.u8 0,
 Value.int IntKind.u8 0, Value.int IntKind.u8 0, Value.int IntKind.u8 0, Value.int IntKind.u8 0,
 Value.int IntKind.u8 0, Value.int IntKind.u8 0, Value.int IntKind.u8 0, Value.int IntKind.u8 0,
 Value.int IntKind.u8 0]
 (wrM 0),
 Blk.mk n_1 45
 (arrI IntKind.u8 a 16 0)
 0,
 Blk.mk n 32
 (arrI IntKind.u8 i 32 0)
 0]
 w'_1 W →
 R
 (Ending.returned
 (Value.tuple
 #[Value.agg
 #[Value.int IntKind.i64 0, Value.int IntKind.u8 0, Value.int IntKind.u8 0, Value.int IntKind.u8 0,
 Value.int IntKind.u8 0, Value.int IntKind.u8 0, Value.int IntKind.u8 0, Value.int IntKind.u8 0,
 Value.int IntKind.u8 0, Value.int IntKind.u8 0, Value.int IntKind.u8 0, Value.int IntKind.u8 0,
 Value.int IntKind.u8 0, Value.int IntKind.u8 0, Value.int IntKind.u8 0, Value.int IntKind.u8 0,
 Value.int IntKind.u8 0, Value.int IntKind.u8 0, Value.int IntKind.u8 0, Value.int IntKind.u8 0,
 Value.int IntKind.u8 0, Value.int IntKind.u8 0, Value.int IntKind.u8 0, Value.int IntKind.u8 0,
 Value.int IntKind.u8 0, Value.int IntKind.u8 0, Value.int IntKind.u8 0, Value.int IntKind.u8 0,
 Value.int IntKind.u8 0, Value.int IntKind.u8 0, Value.int IntKind.u8 0, Value.int IntKind.u8 0,
 Value.int IntKind.u8 0, Value.string (ByteArray.mk #[]), Value.int IntKind.i64 0, Value.bool false,
 Value.slice none 0 0, Value.string (ByteArray.mk #[]), Value.int IntKind.i64 0,
 Value.int IntKind.i64 0, Value.int IntKind.u8 0, Value.int IntKind.u8 0, Value.int IntKind.u8 0,
 Value.int IntKind.u8 0, Value.int IntKind.u8 0, Value.int IntKind.u8 0, Value.int IntKind.u8 0,
 Value.int IntKind.u8 0, Value.int IntKind.u8 0, Value.int IntKind.u8 0, Value.int IntKind.u8 0,
 Value.int IntKind.u8 0, Value.int IntKind.u8 0, Value.int IntKind.u8 0, Value.int IntKind.u8 0,
 Value.int IntKind.u8 0],
 Value.int IntKind.i64 x]))
 W)
 (∀ (W : World),
 Loc w.heap.size
 [Blk.mk n_2 42
 ([Value.int IntKind.i64 2] ++ arrI IntKind.u8 i 32 0 ++ [Value.string s,
 Value.int IntKind.i64 0, Value.bool false, Value.slice none 0 0, Value.string (ByteArray.mk #[]),
 Value.int IntKind.i64 0, Value.int IntKind.i64 0, Value.int IntKind.u8 0, Value.int IntKind.u8 0,
 Value.int IntKind.u8 0, Value.int IntKind.u8 0, Value.int IntKind.u8 0, Value.int IntKind.u8 0,
 Value.int IntKind.u8 0, Value.int IntKind.u8 0, Value.int IntKind.u8 0, Value.int IntKind.u8 0,
 Value.int IntKind.u8 0, Value.int IntKind.u8 0, Value.int IntKind.u8 0, Value.int IntKind.u8 0,
 Value.int IntKind.u8 0, Value.int IntKind.u8 0])
 (wrM 0),
 Blk.mk n_1 45
 (arrI IntKind.u8 a 16 0)
 0,
 Blk.mk n 32
 (arrI IntKind.u8 i 32 0)
 0]
 w'_1 W →
 R
 (Ending.returned
 (Value.tuple
 #[Value.agg
 ([Value.int IntKind.i64 2] ++ arrI IntKind.u8 i 32 0 ++ [Value.string s, Value.int IntKind.i64 0, Value.bool false, Value.slice none 0 0,
 Value.string (ByteArray.mk #[]), Value.int IntKind.i64 0, Value.int IntKind.i64 0,
 Value.int IntKind.u8 0, Value.int IntKind.u8 0, Value.int IntKind.u8 0, Value.int IntKind.u8 0,
 Value.int IntKind.u8 0, Value.int IntKind.u8 0, Value.int IntKind.u8 0, Value.int IntKind.u8 0,
 Value.int IntKind.u8 0, Value.int IntKind.u8 0, Value.int IntKind.u8 0, Value.int IntKind.u8 0,
 Value.int IntKind.u8 0, Value.int IntKind.u8 0, Value.int IntKind.u8 0, Value.int IntKind.u8 0]).toArray,
 Value.int IntKind.i64 0]))
 W))
theorem vc_approve (b : Nat) (i : Nat → Int) (s : ByteArray) (a : Nat → Int) (now : Int) (w : World) (R : Ending → World → Prop) (h : VC_approve b i s a now w R) : Calls Tryz.prog 19 ([Value.pointer
    (some { block := b, off := 0 }),
  Value.agg (arrI IntKind.u8 i 32 0).toArray, Value.string s, Value.agg (arrI IntKind.u8 a 16 0).toArray,
  Value.int IntKind.i64 now] : List Value).toArray w R := by
  have e : execR2 { P := Tryz.prog, loops := [], pur := pur1, tails := [], joins := [], boxes := [] } Tryz.f19.results.toList R (Tryz.f19.body.getD .skip) (initF [Value.pointer
    (some { block := b, off := 0 }),
  Value.agg (arrI IntKind.u8 i 32 0).toArray, Value.string s, Value.agg (arrI IntKind.u8 a 16 0).toArray,
  Value.int IntKind.i64
    now] (Tryz.f19.ntmps - ([Value.pointer (some { block := b, off := 0 }), Value.agg (arrI IntKind.u8 i 32 0).toArray,
  Value.string s, Value.agg (arrI IntKind.u8 a 16 0).toArray,
  Value.int IntKind.i64 now] : List Value).length)) w = VC_approve b i s a now w R := by kernel_rfl
  have hb : Tryz.f19.body = some (Tryz.f19.body.getD .skip) := by kernel_rfl
  exact calls_of_exec2' (P := Tryz.prog) (fn := Tryz.f19) (c := Tryz.f19.body.getD .skip) (args := [Value.pointer
    (some { block := b, off := 0 }),
  Value.agg (arrI IntKind.u8 i 32 0).toArray, Value.string s, Value.agg (arrI IntKind.u8 a 16 0).toArray,
  Value.int IntKind.i64 now]) (w := w) (R := R) pur1_ok Tryz.func19 hb e h

end Go.Proofs.YtfacflbmlfbeeaaGreatDoor
