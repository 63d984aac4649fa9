/- The formulas of functions by the symbolic evaluator, and that each gives the call's contract. Written by a program (gen.py). No condition. -/
import Derived.Test.YtfacflbmlfbeeaaGreatDoorProg
import Derived.Test.YtfacflbmlfbeeaaGreatDoorZ02
import Derived.Test.YtfacflbmlfbeeaaGreatDoorZ04
import Derived.Test.YtfacflbmlfbeeaaGreatDoorZ03
import Derived.KernelRfl
import Derived.Test.YtfacflbmlfbeeaaGreatDoorZ11
namespace Go.Proofs.YtfacflbmlfbeeaaGreatDoor
set_option maxRecDepth 100000
set_option linter.unusedVariables false

def VC_lcmds (i : Nat → Int) (t : ByteArray) (s : ByteArray) (fi : Bool) (w : World) (R : Ending → World → Prop) : Prop :=
 ∀ (n n_1 : Nat) (W : World),
 Loc w.heap.size
 [Blk.mk n_1 33 [Value.string t, Value.string s] 2,
 Blk.mk n 32
 (arrI IntKind.u8 i 32 0)
 2]
 w W →
 CallsS Tryz.prog 14 #[] W fun (e : Ending) (w' : World) =>
 ∃ (x : Bool),
 e = Ending.returned (Value.bool x) ∧
 KeptL [n_1, n] W w' ∧
 bsp (!x) (R (Ending.returned (Value.bool false)) w')
 (∀ (W : World),
 Loc w.heap.size
 [Blk.mk n_1 33 [Value.string t, Value.string s] 0,
 Blk.mk n 32
 (arrI IntKind.u8 i 32 0)
 0]
 w' W →
 CallsS Tryz.prog 17 #[Value.int IntKind.i64 3, Value.int IntKind.i64 2] W fun (e : Ending) (w' : World) =>
 ∃ (x : Option Addr),
 ∃ (x_1 : Option Addr),
 e = Ending.returned (Value.tuple #[Value.pointer x, Value.pointer x_1]) ∧
 KeptL [n_1, n] W w' ∧
 ((0 ≤ if 300 < (↑t.size : Int) then 300 else (↑t.size : Int)) ∧
 (if 300 < (↑t.size : Int) then 300 else (↑t.size : Int)) ≤ (↑t.size : Int)) ∧
 ∀ (W : World),
 Loc w.heap.size
 [Blk.mk n_1 33 [Value.string t, Value.string s] 0,
 Blk.mk n 32
 (arrI IntKind.u8 i 32 0)
 0]
 w' W →
 CallsS Tryz.prog 18
 #[Value.pointer x,
 Value.agg
 (arrI IntKind.u8 i 32 0).toArray,
 Value.string (ByteArray.mk #[103]),
 Value.string (t.extract 0 (if 300 < (↑t.size : Int) then 300 else (↑t.size : Int)).toNat),
 Value.int IntKind.i64 100]
 W fun (e : Ending) (w' : World) =>
 ∃ (x_2 : Int),
 e = Ending.returned (Value.int IntKind.i64 x_2) ∧
 KeptL [n_1, n] W w' ∧
 ((0 ≤ if 250 < (↑s.size : Int) then 250 else (↑s.size : Int)) ∧
 (if 250 < (↑s.size : Int) then 250 else (↑s.size : Int)) ≤ (↑s.size : Int)) ∧
 bsp fi
 (∀ (W : World),
 Loc w.heap.size
 [Blk.mk n_1 33 [Value.string t, Value.string s] 0,
 Blk.mk n 32
 (arrI IntKind.u8 i 32 0)
 0]
 w' W →
 ∃ (S : World → Prop),
 S W ∧
 ∃ (f : Nat → Int),
 (∀ (w' : World),
 S w' →
 AtL w' n 0
 (arrI IntKind.u8 f 32 0)) ∧
 (CallsS Tryz.prog 20 #[Value.int IntKind.u8 1] W fun (e : Ending) (w' : World) =>
 ∃ (f_1 : Nat → Int),
 e =
 Ending.returned
 (Value.agg
 (arrI IntKind.u8 f_1 16 0).toArray) ∧
 S w' ∧
 (CallsS Tryz.prog 19
 #[Value.pointer x,
 Value.agg
 (arrI IntKind.u8 f 32 0).toArray,
 Value.string (ByteArray.mk #[103]),
 Value.agg
 (arrI IntKind.u8 f_1 16 0).toArray,
 Value.int IntKind.i64 101]
 w' fun (e : Ending) (w' : World) =>
 ∃ (x_3 : Int),
 ∃ (f : Nat → Int),
 ∃ (x_4 : ByteArray),
 ∃ (x_5 : Int),
 ∃ (x_6 : Bool),
 ∃ (p : Option Addr),
 ∃ (n_2 : Nat),
 ∃ (c : Nat),
 ∃ (x_7 : ByteArray),
 ∃ (x_8 : Int),
 ∃ (x_9 : Int),
 ∃ (f_2 : Nat → Int),
 ∃ (x_10 : Int),
 e =
 Ending.returned
 (Value.tuple
 #[Value.agg
 ([Value.int IntKind.i64 x_3] ++ arrI IntKind.u8 f 32 0 ++ ([Value.string x_4,
 Value.int IntKind.i64 x_5, Value.bool x_6, Value.slice p n_2 c,
 Value.string x_7, Value.int IntKind.i64 x_8,
 Value.int IntKind.i64 x_9] ++ arrI IntKind.u8 f_2 16 0)).toArray,
 Value.int IntKind.i64 x_10]) ∧
 ∀ (n_3 : Nat) (w1 : World),
 NewB w'
 (Obj.cells
 #[Value.int IntKind.i64 0, Value.int IntKind.u8 0,
 Value.int IntKind.u8 0, Value.int IntKind.u8 0,
 Value.int IntKind.u8 0, Value.int IntKind.u8 0,
 Value.int IntKind.u8 0, Value.int IntKind.u8 0,
 Value.int IntKind.u8 0, Value.int IntKind.u8 0,
 Value.int IntKind.u8 0, Value.int IntKind.u8 0,
 Value.int IntKind.u8 0, Value.int IntKind.u8 0,
 Value.int IntKind.u8 0, Value.int IntKind.u8 0,
 Value.int IntKind.u8 0, Value.int IntKind.u8 0,
 Value.int IntKind.u8 0, Value.int IntKind.u8 0,
 Value.int IntKind.u8 0, Value.int IntKind.u8 0,
 Value.int IntKind.u8 0, Value.int IntKind.u8 0,
 Value.int IntKind.u8 0, Value.int IntKind.u8 0,
 Value.int IntKind.u8 0, Value.int IntKind.u8 0,
 Value.int IntKind.u8 0, Value.int IntKind.u8 0,
 Value.int IntKind.u8 0, Value.int IntKind.u8 0,
 Value.int IntKind.u8 0, Value.string (ByteArray.mk #[]),
 Value.int IntKind.i64 0, Value.bool false, Value.slice none 0 0,
 Value.string (ByteArray.mk #[]), Value.int IntKind.i64 0,
 Value.int IntKind.i64 0, Value.int IntKind.u8 0,
 Value.int IntKind.u8 0, Value.int IntKind.u8 0,
 Value.int IntKind.u8 0, Value.int IntKind.u8 0,
 Value.int IntKind.u8 0, Value.int IntKind.u8 0,
 Value.int IntKind.u8 0, Value.int IntKind.u8 0,
 Value.int IntKind.u8 0, Value.int IntKind.u8 0,
 Value.int IntKind.u8 0, Value.int IntKind.u8 0,
 Value.int IntKind.u8 0, Value.int IntKind.u8 0,
 Value.int IntKind.u8 0]
 42)
 n_3 w1 →
 S w1 ∧
 WrL w1 n_3 0 56 ∧
 ∀ (w1_1 : World),
 PutB w1 n_3 0
 ([Value.int IntKind.i64 x_3] ++ arrI IntKind.u8 f 32 0 ++ ([Value.string x_4,
 Value.int IntKind.i64 x_5, Value.bool x_6,
 Value.slice p n_2 c, Value.string x_7,
 Value.int IntKind.i64 x_8, Value.int IntKind.i64 x_9] ++ arrI IntKind.u8 f_2 16 0))
 w1_1 →
 KeptL [n_1, n] W w1_1 ∧
 ∀ (W : World),
 Loc w.heap.size
 [Blk.mk n_1 33 [Value.string t, Value.string s] 0,
 Blk.mk n 32
 (arrI IntKind.u8 i 32 0)
 0]
 w1_1 W →
 ∃ (S : World → Prop),
 S W ∧
 ∃ (f : Nat → Int),
 (∀ (w' : World),
 S w' →
 AtL w' n 0
 (arrI IntKind.u8 f 32 0)) ∧
 (CallsS Tryz.prog 20 #[Value.int IntKind.u8 2] W
 fun (e : Ending) (w' : World) =>
 ∃ (f_3 : Nat → Int),
 e =
 Ending.returned
 (Value.agg
 (arrI IntKind.u8 f_3 16 0).toArray) ∧
 S w' ∧
 (CallsS Tryz.prog 19
 #[Value.pointer x,
 Value.agg
 (arrI IntKind.u8 f 32 0).toArray,
 Value.string (ByteArray.mk #[103]),
 Value.agg
 (arrI IntKind.u8 f_3 16 0).toArray,
 Value.int IntKind.i64 102]
 w' fun (e : Ending) (w' : World) =>
 ∃ (x_11 : Int),
 ∃ (f : Nat → Int),
 ∃ (x_12 : ByteArray),
 ∃ (x_13 : Int),
 ∃ (x_14 : Bool),
 ∃ (p : Option Addr),
 ∃ (n_4 : Nat),
 ∃ (c : Nat),
 ∃ (x_15 : ByteArray),
 ∃ (x_16 : Int),
 ∃ (x_17 : Int),
 ∃ (f_4 : Nat → Int),
 ∃ (x_18 : Int),
 e =
 Ending.returned
 (Value.tuple
 #[Value.agg
 ([Value.int IntKind.i64 x_11] ++ arrI IntKind.u8 f 32 0 ++ ([Value.string x_12,
 Value.int IntKind.i64 x_13,
 Value.bool x_14,
 Value.slice p n_4 c,
 Value.string x_15,
 Value.int IntKind.i64 x_16,
 Value.int IntKind.i64 x_17] ++ arrI IntKind.u8 f_4 16 0)).toArray,
 Value.int IntKind.i64 x_18]) ∧
 ∀ (n_5 : Nat) (w1 : World),
 NewB w'
 (Obj.cells
 #[Value.int IntKind.i64 0,
 Value.int IntKind.u8 0,
 Value.int IntKind.u8 0,
 Value.int IntKind.u8 0,
 Value.int IntKind.u8 0,
 Value.int IntKind.u8 0,
 Value.int IntKind.u8 0,
 Value.int IntKind.u8 0,
 Value.int IntKind.u8 0,
 Value.int IntKind.u8 0,
 Value.int IntKind.u8 0,
 Value.int IntKind.u8 0,
 Value.int IntKind.u8 0,
 Value.int IntKind.u8 0,
 Value.int IntKind.u8 0,
 Value.int IntKind.u8 0,
 Value.int IntKind.u8 0,
 Value.int IntKind.u8 0,
 Value.int IntKind.u8 0,
 Value.int IntKind.u8 0,
 Value.int IntKind.u8 0,
 Value.int IntKind.u8 0,
 Value.int IntKind.u8 0,
 Value.int IntKind.u8 0,
 Value.int IntKind.u8 0,
 Value.int IntKind.u8 0,
 Value.int IntKind.u8 0,
 Value.int IntKind.u8 0,
 Value.int IntKind.u8 0,
 Value.int IntKind.u8 0,
 Value.int IntKind.u8 0,
 Value.int IntKind.u8 0,
 Value.int IntKind.u8 0,
 Value.string
 (ByteArray.mk #[]),
 Value.int IntKind.i64 0,
 Value.bool false,
 Value.slice none 0 0,
 Value.string
 (ByteArray.mk #[]),
 Value.int IntKind.i64 0,
 Value.int IntKind.i64 0,
 Value.int IntKind.u8 0,
 Value.int IntKind.u8 0,
 Value.int IntKind.u8 0,
 Value.int IntKind.u8 0,
 Value.int IntKind.u8 0,
 Value.int IntKind.u8 0,
 Value.int IntKind.u8 0,
 Value.int IntKind.u8 0,
 Value.int IntKind.u8 0,
 Value.int IntKind.u8 0,
 Value.int IntKind.u8 0,
 Value.int IntKind.u8 0,
 Value.int IntKind.u8 0,
 Value.int IntKind.u8 0,
 Value.int IntKind.u8 0,
 Value.int IntKind.u8 0]
 42)
 n_5 w1 →
 S w1 ∧
 WrL w1 n_5 0 56 ∧
 ∀ (w1_2 : World),
 PutB w1 n_5 0
 ([Value.int IntKind.i64 x_11] ++ arrI IntKind.u8 f 32 0 ++ ([Value.string x_12,
 Value.int IntKind.i64 x_13,
 Value.bool x_14,
 Value.slice p n_4 c,
 Value.string x_15,
 Value.int IntKind.i64 x_16,
 Value.int IntKind.i64 x_17] ++ arrI IntKind.u8 f_4 16 0))
 w1_2 →
 KeptL [n_1, n] W w1_2 ∧
 CallsS Tryz.prog 21
 #[Value.pointer x,
 Value.agg
 (arrI IntKind.u8 i 32 0).toArray,
 Value.string
 (ByteArray.mk #[103])]
 w1_2
 fun (e : Ending)
 (w' : World) =>
 ∃ (f : Nat → Int),
 ∃ (x_19 : ByteArray),
 ∃ (x_20 : ByteArray),
 ∃ (x_21 : Int),
 ∃ (x_22 : Int),
 ∃ (f_5 : Nat → Int),
 ∃ (x_23 : Int),
 ∃ (x_24 : ByteArray),
 ∃ (x_25 : Bool),
 e =
 Ending.returned
 (Value.tuple
 #[Value.agg
 (arrI IntKind.u8 f 32 0 ++ ([Value.string
 x_19,
 Value.string
 x_20,
 Value.int
 IntKind.i64
 x_21,
 Value.int
 IntKind.i64
 x_22] ++ arrI IntKind.u8 f_5 16 0 ++ [Value.int
 IntKind.i64
 x_23,
 Value.string
 x_24])).toArray,
 Value.bool
 x_25]) ∧
 KeptL [n_1, n]
 w1_2 w' ∧
 ∀ (n_6 : Nat)
 (W : World),
 Loc w.heap.size
 [Blk.mk n_6 48
 (arrI IntKind.u8 f 32 0 ++ ([Value.string
 x_19,
 Value.string
 x_20,
 Value.int
 IntKind.i64
 x_21,
 Value.int
 IntKind.i64
 x_22] ++ arrI IntKind.u8 f_5 16 0 ++ [Value.int
 IntKind.i64
 x_23,
 Value.string
 x_24]))
 (wrM 2),
 Blk.mk n_1 33
 [Value.string
 t,
 Value.string
 s]
 0,
 Blk.mk n 32
 (arrI IntKind.u8 i 32 0)
 0]
 w' W →
 ∃ (S :
 World → Prop),
 S W ∧
 ∃ (x_26 :
 Int),
 ∃ (f :
 Nat → Int),
 ∃ (x_27 :
 ByteArray),
 ∃ (x_28 :
 Int),
 ∃ (x_29 :
 Bool),
 ∃ (p :
 Option
 Addr),
 ∃ (n_7
 :
 Nat),
 ∃ (c :
 Nat),
 ∃
 (x_30
 :
 ByteArray),
 ∃
 (x_31
 :
 Int),
 ∃
 (x_32
 :
 Int),
 ∃
 (f_6
 :
 Nat →
 Int),
 gimp
 (x_10 ==
 0)
 (∀
 (w' :
 World),
 S
 w' →
 AtL
 w'
 n_3
 0
 ([Value.int
 IntKind.i64
 x_26] ++ arrI IntKind.u8 f 32 0 ++ ([Value.string
 x_27,
 Value.int
 IntKind.i64
 x_28,
 Value.bool
 x_29,
 Value.slice
 p
 n_7
 c,
 Value.string
 x_30,
 Value.int
 IntKind.i64
 x_31,
 Value.int
 IntKind.i64
 x_32] ++ arrI IntKind.u8 f_6 16 0))) ∧
 ∃
 (f_7
 :
 Nat →
 Int),
 gimp
 (x_10 ==
 0)
 (∀
 (w' :
 World),
 S
 w' →
 AtL
 w'
 n
 0
 (arrI IntKind.u8 f_7 32 0)) ∧
 bsp
 (x_10 ==
 0)
 (CallsS
 Tryz.prog
 23
 #[Value.agg
 (arrI IntKind.u8 f_7 32 0).toArray,
 Value.string
 (ByteArray.mk
 #[103]),
 Value.int
 IntKind.i64
 x_10]
 W
 fun
 (e :
 Ending)
 (w' :
 World) =>
 ∃
 (x_33
 :
 Int),
 ∃
 (f_8
 :
 Nat →
 Int),
 ∃
 (x_34
 :
 ByteArray),
 ∃
 (x_35
 :
 Int),
 ∃
 (x_36
 :
 Bool),
 ∃
 (p_1
 :
 Option
 Addr),
 ∃
 (n_8
 :
 Nat),
 ∃
 (c_1
 :
 Nat),
 ∃
 (x_37
 :
 ByteArray),
 ∃
 (x_38
 :
 Int),
 ∃
 (x_39
 :
 Int),
 ∃
 (f_9
 :
 Nat →
 Int),
 e =
 Ending.returned
 (Value.agg
 ([Value.int
 IntKind.i64
 x_33] ++ arrI IntKind.u8 f_8 32 0 ++ ([Value.string
 x_34,
 Value.int
 IntKind.i64
 x_35,
 Value.bool
 x_36,
 Value.slice
 p_1
 n_8
 c_1,
 Value.string
 x_37,
 Value.int
 IntKind.i64
 x_38,
 Value.int
 IntKind.i64
 x_39] ++ arrI IntKind.u8 f_9 16 0)).toArray) ∧
 S
 w' ∧
 CallsS
 Tryz.prog
 22
 #[Value.agg
 ([Value.int
 IntKind.i64
 x_26] ++ arrI IntKind.u8 f 32 0 ++ ([Value.string
 x_27,
 Value.int
 IntKind.i64
 x_28,
 Value.bool
 x_29,
 Value.slice
 p
 n_7
 c,
 Value.string
 x_30,
 Value.int
 IntKind.i64
 x_31,
 Value.int
 IntKind.i64
 x_32] ++ arrI IntKind.u8 f_6 16 0)).toArray,
 Value.agg
 ([Value.int
 IntKind.i64
 x_33] ++ arrI IntKind.u8 f_8 32 0 ++ ([Value.string
 x_34,
 Value.int
 IntKind.i64
 x_35,
 Value.bool
 x_36,
 Value.slice
 p_1
 n_8
 c_1,
 Value.string
 x_37,
 Value.int
 IntKind.i64
 x_38,
 Value.int
 IntKind.i64
 x_39] ++ arrI IntKind.u8 f_9 16 0)).toArray]
 w'
 fun
 (e :
 Ending)
 (w' :
 World) =>
 ∃
 (x_40
 :
 Bool),
 e =
 Ending.returned
 (Value.bool
 x_40) ∧
 S
 w' ∧
 ∃
 (f
 :
 Nat →
 Int),
 gimp
 (true &&
 x_40 &&
 x_18 ==
 10)
 (∀
 (w' :
 World),
 S
 w' →
 AtL
 w'
 n
 0
 (arrI IntKind.u8 f 32 0)) ∧
 bsp
 (true &&
 x_40 &&
 x_18 ==
 10)
 (CallsS
 Tryz.prog
 20
 #[Value.int
 IntKind.u8
 1]
 w'
 fun
 (e :
 Ending)
 (w' :
 World) =>
 ∃
 (f_10
 :
 Nat →
 Int),
 e =
 Ending.returned
 (Value.agg
 (arrI IntKind.u8 f_10 16 0).toArray) ∧
 S
 w' ∧
 CallsS
 Tryz.prog
 24
 #[Value.pointer
 x,
 Value.agg
 (arrI IntKind.u8 f 32 0).toArray,
 Value.string
 (ByteArray.mk
 #[103]),
 Value.agg
 (arrI IntKind.u8 f_10 16 0).toArray,
 Value.string
 (ByteArray.mk
 #[]),
 Value.int
 IntKind.i64
 103]
 w'
 fun
 (e :
 Ending)
 (w' :
 World) =>
 ∃
 (x
 :
 Int),
 e =
 Ending.returned
 (Value.int
 IntKind.i64
 x) ∧
 S
 w' ∧
 ∃
 (x_41
 :
 Int),
 gimp
 (true &&
 x ==
 10 &&
 x_25)
 (∀
 (w' :
 World),
 S
 w' →
 w'.cell?
 (Addr.mk
 n_6
 (0 +
 35)
 none) =
 some
 (Value.int
 IntKind.i64
 x_41)) ∧
 ∃
 (f
 :
 Nat →
 Int),
 gimp
 (true &&
 x ==
 10 &&
 x_25 &&
 x_41 ==
 1)
 (∀
 (w' :
 World),
 S
 w' →
 AtL
 w'
 n_6
 (0 +
 36)
 (arrI IntKind.u8 f 16 0)) ∧
 bsp
 (true &&
 x ==
 10 &&
 x_25 &&
 x_41 ==
 1)
 (CallsS
 Tryz.prog
 20
 #[Value.int
 IntKind.u8
 1]
 w'
 fun
 (e :
 Ending)
 (w' :
 World) =>
 ∃
 (f_11
 :
 Nat →
 Int),
 e =
 Ending.returned
 (Value.agg
 (arrI IntKind.u8 f_11 16 0).toArray) ∧
 S
 w' ∧
 ∃
 (r
 :
 Bool),
 EqP
 Tryz.prog
 45
 (Value.agg
 (arrI IntKind.u8 f 16 0).toArray)
 (Value.agg
 (arrI IntKind.u8 f_11 16 0).toArray)
 r ∧
 ∃
 (x
 :
 Int),
 gimp
 (true &&
 r)
 (∀
 (w' :
 World),
 S
 w' →
 w'.cell?
 (Addr.mk
 n_6
 (0 +
 52)
 none) =
 some
 (Value.int
 IntKind.i64
 x)) ∧
 ∃
 (x_42
 :
 ByteArray),
 gimp
 (true &&
 r &&
 x ==
 101)
 (∀
 (w' :
 World),
 S
 w' →
 w'.cell?
 (Addr.mk
 n_6
 (0 +
 53)
 none) =
 some
 (Value.string
 x_42)) ∧
 KeptL
 [n_6,
 n_1,
 n]
 W
 w' ∧
 R
 (Ending.returned
 (Value.bool
 (true &&
 r &&
 x ==
 101 &&
 x_42.toList ==
 [])))
 w')
 (S
 w' ∧
 ∃
 (x
 :
 Int),
 True ∧
 ∃
 (x_42
 :
 ByteArray),
 True ∧
 KeptL
 [n_6,
 n_1,
 n]
 W
 w' ∧
 R
 (Ending.returned
 (Value.bool
 (false &&
 x ==
 101 &&
 x_42.toList ==
 [])))
 w'))
 (S
 w' ∧
 S
 w' ∧
 ∃
 (x
 :
 Int),
 True ∧
 ∃
 (f
 :
 Nat →
 Int),
 True ∧
 S
 w' ∧
 ∃
 (x
 :
 Int),
 True ∧
 ∃
 (x_41
 :
 ByteArray),
 True ∧
 KeptL
 [n_6,
 n_1,
 n]
 W
 w' ∧
 R
 (Ending.returned
 (Value.bool
 (false &&
 x ==
 101 &&
 x_41.toList ==
 [])))
 w'))
 (S
 W ∧
 S
 W ∧
 ∃
 (f
 :
 Nat →
 Int),
 True ∧
 S
 W ∧
 S
 W ∧
 ∃
 (x
 :
 Int),
 True ∧
 ∃
 (f
 :
 Nat →
 Int),
 True ∧
 S
 W ∧
 ∃
 (x
 :
 Int),
 True ∧
 ∃
 (x_33
 :
 ByteArray),
 True ∧
 KeptL
 [n_6,
 n_1,
 n]
 W
 W ∧
 R
 (Ending.returned
 (Value.bool
 (false &&
 x ==
 101 &&
 x_33.toList ==
 [])))
 W)) ∧
 ∀ (n_4 : Nat) (w1 : World),
 NewB w'
 (Obj.cells
 #[Value.int IntKind.i64 0,
 Value.int IntKind.u8 0,
 Value.int IntKind.u8 0,
 Value.int IntKind.u8 0,
 Value.int IntKind.u8 0,
 Value.int IntKind.u8 0,
 Value.int IntKind.u8 0,
 Value.int IntKind.u8 0,
 Value.int IntKind.u8 0,
 Value.int IntKind.u8 0,
 Value.int IntKind.u8 0,
 Value.int IntKind.u8 0,
 Value.int IntKind.u8 0,
 Value.int IntKind.u8 0,
 Value.int IntKind.u8 0,
 Value.int IntKind.u8 0,
 Value.int IntKind.u8 0,
 Value.int IntKind.u8 0,
 Value.int IntKind.u8 0,
 Value.int IntKind.u8 0,
 Value.int IntKind.u8 0,
 Value.int IntKind.u8 0,
 Value.int IntKind.u8 0,
 Value.int IntKind.u8 0,
 Value.int IntKind.u8 0,
 Value.int IntKind.u8 0,
 Value.int IntKind.u8 0,
 Value.int IntKind.u8 0,
 Value.int IntKind.u8 0,
 Value.int IntKind.u8 0,
 Value.int IntKind.u8 0,
 Value.int IntKind.u8 0,
 Value.int IntKind.u8 0,
 Value.string (ByteArray.mk #[]),
 Value.int IntKind.i64 0, Value.bool false,
 Value.slice none 0 0,
 Value.string (ByteArray.mk #[]),
 Value.int IntKind.i64 0,
 Value.int IntKind.i64 0,
 Value.int IntKind.u8 0,
 Value.int IntKind.u8 0,
 Value.int IntKind.u8 0,
 Value.int IntKind.u8 0,
 Value.int IntKind.u8 0,
 Value.int IntKind.u8 0,
 Value.int IntKind.u8 0,
 Value.int IntKind.u8 0,
 Value.int IntKind.u8 0,
 Value.int IntKind.u8 0,
 Value.int IntKind.u8 0,
 Value.int IntKind.u8 0,
 Value.int IntKind.u8 0,
 Value.int IntKind.u8 0,
 Value.int IntKind.u8 0,
 Value.int IntKind.u8 0]
 42)
 n_4 w1 →
 S w1 ∧
 CallsS Tryz.prog 19
 #[Value.pointer x,
 Value.agg
 (arrI IntKind.u8 f 32 0).toArray,
 Value.string (ByteArray.mk #[103]),
 Value.agg
 (arrI IntKind.u8 f_3 16 0).toArray,
 Value.int IntKind.i64 102]
 w1 fun (e : Ending) (w' : World) =>
 ∃ (x_11 : Int),
 ∃ (f : Nat → Int),
 ∃ (x_12 : ByteArray),
 ∃ (x_13 : Int),
 ∃ (x_14 : Bool),
 ∃ (p : Option Addr),
 ∃ (n_5 : Nat),
 ∃ (c : Nat),
 ∃ (x_15 : ByteArray),
 ∃ (x_16 : Int),
 ∃ (x_17 : Int),
 ∃ (f_4 : Nat → Int),
 ∃ (x_18 : Int),
 e =
 Ending.returned
 (Value.tuple
 #[Value.agg
 ([Value.int IntKind.i64
 x_11] ++ arrI IntKind.u8 f 32 0 ++ ([Value.string x_12,
 Value.int IntKind.i64 x_13,
 Value.bool x_14,
 Value.slice p n_5 c,
 Value.string x_15,
 Value.int IntKind.i64 x_16,
 Value.int IntKind.i64 x_17] ++ arrI IntKind.u8 f_4 16 0)).toArray,
 Value.int IntKind.i64
 x_18]) ∧
 WrL w' n_4 0 56 ∧
 ∀ (w1 : World),
 PutB w' n_4 0
 ([Value.int IntKind.i64 x_11] ++ arrI IntKind.u8 f 32 0 ++ ([Value.string x_12,
 Value.int IntKind.i64 x_13,
 Value.bool x_14,
 Value.slice p n_5 c,
 Value.string x_15,
 Value.int IntKind.i64 x_16,
 Value.int IntKind.i64 x_17] ++ arrI IntKind.u8 f_4 16 0))
 w1 →
 KeptL [n_1, n] W w1 ∧
 CallsS Tryz.prog 21
 #[Value.pointer x,
 Value.agg
 (arrI IntKind.u8 i 32 0).toArray,
 Value.string
 (ByteArray.mk #[103])]
 w1
 fun (e : Ending)
 (w' : World) =>
 ∃ (f : Nat → Int),
 ∃ (x_19 : ByteArray),
 ∃ (x_20 : ByteArray),
 ∃ (x_21 : Int),
 ∃ (x_22 : Int),
 ∃ (f_5 : Nat → Int),
 ∃ (x_23 : Int),
 ∃ (x_24 : ByteArray),
 ∃ (x_25 : Bool),
 e =
 Ending.returned
 (Value.tuple
 #[Value.agg
 (arrI IntKind.u8 f 32 0 ++ ([Value.string
 x_19,
 Value.string
 x_20,
 Value.int
 IntKind.i64
 x_21,
 Value.int
 IntKind.i64
 x_22] ++ arrI IntKind.u8 f_5 16 0 ++ [Value.int
 IntKind.i64
 x_23,
 Value.string
 x_24])).toArray,
 Value.bool
 x_25]) ∧
 KeptL [n_1, n] w1
 w' ∧
 ∀ (n_6 : Nat)
 (W : World),
 Loc w.heap.size
 [Blk.mk n_6 48
 (arrI IntKind.u8 f 32 0 ++ ([Value.string
 x_19,
 Value.string
 x_20,
 Value.int
 IntKind.i64
 x_21,
 Value.int
 IntKind.i64
 x_22] ++ arrI IntKind.u8 f_5 16 0 ++ [Value.int
 IntKind.i64
 x_23,
 Value.string
 x_24]))
 (wrM 2),
 Blk.mk n_1 33
 [Value.string
 t,
 Value.string
 s]
 0,
 Blk.mk n 32
 (arrI IntKind.u8 i 32 0)
 0]
 w' W →
 ∃ (S :
 World → Prop),
 S W ∧
 ∃ (x_26 :
 Int),
 ∃ (f :
 Nat → Int),
 ∃ (x_27 :
 ByteArray),
 ∃ (x_28 :
 Int),
 ∃ (x_29 :
 Bool),
 ∃ (p :
 Option
 Addr),
 ∃ (n_7
 :
 Nat),
 ∃ (c :
 Nat),
 ∃
 (x_30
 :
 ByteArray),
 ∃
 (x_31
 :
 Int),
 ∃
 (x_32
 :
 Int),
 ∃
 (f_6
 :
 Nat →
 Int),
 gimp
 (x_10 ==
 0)
 (∀
 (w' :
 World),
 S
 w' →
 AtL
 w'
 n_3
 0
 ([Value.int
 IntKind.i64
 x_26] ++ arrI IntKind.u8 f 32 0 ++ ([Value.string
 x_27,
 Value.int
 IntKind.i64
 x_28,
 Value.bool
 x_29,
 Value.slice
 p
 n_7
 c,
 Value.string
 x_30,
 Value.int
 IntKind.i64
 x_31,
 Value.int
 IntKind.i64
 x_32] ++ arrI IntKind.u8 f_6 16 0))) ∧
 ∃
 (f_7
 :
 Nat →
 Int),
 gimp
 (x_10 ==
 0)
 (∀
 (w' :
 World),
 S
 w' →
 AtL
 w'
 n
 0
 (arrI IntKind.u8 f_7 32 0)) ∧
 bsp
 (x_10 ==
 0)
 (CallsS
 Tryz.prog
 23
 #[Value.agg
 (arrI IntKind.u8 f_7 32 0).toArray,
 Value.string
 (ByteArray.mk
 #[103]),
 Value.int
 IntKind.i64
 x_10]
 W
 fun
 (e :
 Ending)
 (w' :
 World) =>
 ∃
 (x_33
 :
 Int),
 ∃
 (f_8
 :
 Nat →
 Int),
 ∃
 (x_34
 :
 ByteArray),
 ∃
 (x_35
 :
 Int),
 ∃
 (x_36
 :
 Bool),
 ∃
 (p_1
 :
 Option
 Addr),
 ∃
 (n_8
 :
 Nat),
 ∃
 (c_1
 :
 Nat),
 ∃
 (x_37
 :
 ByteArray),
 ∃
 (x_38
 :
 Int),
 ∃
 (x_39
 :
 Int),
 ∃
 (f_9
 :
 Nat →
 Int),
 e =
 Ending.returned
 (Value.agg
 ([Value.int
 IntKind.i64
 x_33] ++ arrI IntKind.u8 f_8 32 0 ++ ([Value.string
 x_34,
 Value.int
 IntKind.i64
 x_35,
 Value.bool
 x_36,
 Value.slice
 p_1
 n_8
 c_1,
 Value.string
 x_37,
 Value.int
 IntKind.i64
 x_38,
 Value.int
 IntKind.i64
 x_39] ++ arrI IntKind.u8 f_9 16 0)).toArray) ∧
 S
 w' ∧
 CallsS
 Tryz.prog
 22
 #[Value.agg
 ([Value.int
 IntKind.i64
 x_26] ++ arrI IntKind.u8 f 32 0 ++ ([Value.string
 x_27,
 Value.int
 IntKind.i64
 x_28,
 Value.bool
 x_29,
 Value.slice
 p
 n_7
 c,
 Value.string
 x_30,
 Value.int
 IntKind.i64
 x_31,
 Value.int
 IntKind.i64
 x_32] ++ arrI IntKind.u8 f_6 16 0)).toArray,
 Value.agg
 ([Value.int
 IntKind.i64
 x_33] ++ arrI IntKind.u8 f_8 32 0 ++ ([Value.string
 x_34,
 Value.int
 IntKind.i64
 x_35,
 Value.bool
 x_36,
 Value.slice
 p_1
 n_8
 c_1,
 Value.string
 x_37,
 Value.int
 IntKind.i64
 x_38,
 Value.int
 IntKind.i64
 x_39] ++ arrI IntKind.u8 f_9 16 0)).toArray]
 w'
 fun
 (e :
 Ending)
 (w' :
 World) =>
 ∃
 (x_40
 :
 Bool),
 e =
 Ending.returned
 (Value.bool
 x_40) ∧
 S
 w' ∧
 ∃
 (f
 :
 Nat →
 Int),
 gimp
 (true &&
 x_40 &&
 x_18 ==
 10)
 (∀
 (w' :
 World),
 S
 w' →
 AtL
 w'
 n
 0
 (arrI IntKind.u8 f 32 0)) ∧
 bsp
 (true &&
 x_40 &&
 x_18 ==
 10)
 (CallsS
 Tryz.prog
 20
 #[Value.int
 IntKind.u8
 1]
 w'
 fun
 (e :
 Ending)
 (w' :
 World) =>
 ∃
 (f_10
 :
 Nat →
 Int),
 e =
 Ending.returned
 (Value.agg
 (arrI IntKind.u8 f_10 16 0).toArray) ∧
 S
 w' ∧
 CallsS
 Tryz.prog
 24
 #[Value.pointer
 x,
 Value.agg
 (arrI IntKind.u8 f 32 0).toArray,
 Value.string
 (ByteArray.mk
 #[103]),
 Value.agg
 (arrI IntKind.u8 f_10 16 0).toArray,
 Value.string
 (ByteArray.mk
 #[]),
 Value.int
 IntKind.i64
 103]
 w'
 fun
 (e :
 Ending)
 (w' :
 World) =>
 ∃
 (x
 :
 Int),
 e =
 Ending.returned
 (Value.int
 IntKind.i64
 x) ∧
 S
 w' ∧
 ∃
 (x_41
 :
 Int),
 gimp
 (true &&
 x ==
 10 &&
 x_25)
 (∀
 (w' :
 World),
 S
 w' →
 w'.cell?
 (Addr.mk
 n_6
 (0 +
 35)
 none) =
 some
 (Value.int
 IntKind.i64
 x_41)) ∧
 ∃
 (f
 :
 Nat →
 Int),
 gimp
 (true &&
 x ==
 10 &&
 x_25 &&
 x_41 ==
 1)
 (∀
 (w' :
 World),
 S
 w' →
 AtL
 w'
 n_6
 (0 +
 36)
 (arrI IntKind.u8 f 16 0)) ∧
 bsp
 (true &&
 x ==
 10 &&
 x_25 &&
 x_41 ==
 1)
 (CallsS
 Tryz.prog
 20
 #[Value.int
 IntKind.u8
 1]
 w'
 fun
 (e :
 Ending)
 (w' :
 World) =>
 ∃
 (f_11
 :
 Nat →
 Int),
 e =
 Ending.returned
 (Value.agg
 (arrI IntKind.u8 f_11 16 0).toArray) ∧
 S
 w' ∧
 ∃
 (r
 :
 Bool),
 EqP
 Tryz.prog
 45
 (Value.agg
 (arrI IntKind.u8 f 16 0).toArray)
 (Value.agg
 (arrI IntKind.u8 f_11 16 0).toArray)
 r ∧
 ∃
 (x
 :
 Int),
 gimp
 (true &&
 r)
 (∀
 (w' :
 World),
 S
 w' →
 w'.cell?
 (Addr.mk
 n_6
 (0 +
 52)
 none) =
 some
 (Value.int
 IntKind.i64
 x)) ∧
 ∃
 (x_42
 :
 ByteArray),
 gimp
 (true &&
 r &&
 x ==
 101)
 (∀
 (w' :
 World),
 S
 w' →
 w'.cell?
 (Addr.mk
 n_6
 (0 +
 53)
 none) =
 some
 (Value.string
 x_42)) ∧
 KeptL
 [n_6,
 n_1,
 n]
 W
 w' ∧
 R
 (Ending.returned
 (Value.bool
 (true &&
 r &&
 x ==
 101 &&
 x_42.toList ==
 [])))
 w')
 (S
 w' ∧
 ∃
 (x
 :
 Int),
 True ∧
 ∃
 (x_42
 :
 ByteArray),
 True ∧
 KeptL
 [n_6,
 n_1,
 n]
 W
 w' ∧
 R
 (Ending.returned
 (Value.bool
 (false &&
 x ==
 101 &&
 x_42.toList ==
 [])))
 w'))
 (S
 w' ∧
 S
 w' ∧
 ∃
 (x
 :
 Int),
 True ∧
 ∃
 (f
 :
 Nat →
 Int),
 True ∧
 S
 w' ∧
 ∃
 (x
 :
 Int),
 True ∧
 ∃
 (x_41
 :
 ByteArray),
 True ∧
 KeptL
 [n_6,
 n_1,
 n]
 W
 w' ∧
 R
 (Ending.returned
 (Value.bool
 (false &&
 x ==
 101 &&
 x_41.toList ==
 [])))
 w'))
 (S
 W ∧
 S
 W ∧
 ∃
 (f
 :
 Nat →
 Int),
 True ∧
 S
 W ∧
 S
 W ∧
 ∃
 (x
 :
 Int),
 True ∧
 ∃
 (f
 :
 Nat →
 Int),
 True ∧
 S
 W ∧
 ∃
 (x
 :
 Int),
 True ∧
 ∃
 (x_33
 :
 ByteArray),
 True ∧
 KeptL
 [n_6,
 n_1,
 n]
 W
 W ∧
 R
 (Ending.returned
 (Value.bool
 (false &&
 x ==
 101 &&
 x_33.toList ==
 [])))
 W)) ∧
 ∀ (n_4 : Nat) (w1 : World),
 NewB W
 (Obj.cells
 #[Value.int IntKind.i64 0, Value.int IntKind.u8 0,
 Value.int IntKind.u8 0, Value.int IntKind.u8 0,
 Value.int IntKind.u8 0, Value.int IntKind.u8 0,
 Value.int IntKind.u8 0, Value.int IntKind.u8 0,
 Value.int IntKind.u8 0, Value.int IntKind.u8 0,
 Value.int IntKind.u8 0, Value.int IntKind.u8 0,
 Value.int IntKind.u8 0, Value.int IntKind.u8 0,
 Value.int IntKind.u8 0, Value.int IntKind.u8 0,
 Value.int IntKind.u8 0, Value.int IntKind.u8 0,
 Value.int IntKind.u8 0, Value.int IntKind.u8 0,
 Value.int IntKind.u8 0, Value.int IntKind.u8 0,
 Value.int IntKind.u8 0, Value.int IntKind.u8 0,
 Value.int IntKind.u8 0, Value.int IntKind.u8 0,
 Value.int IntKind.u8 0, Value.int IntKind.u8 0,
 Value.int IntKind.u8 0, Value.int IntKind.u8 0,
 Value.int IntKind.u8 0, Value.int IntKind.u8 0,
 Value.int IntKind.u8 0,
 Value.string (ByteArray.mk #[]),
 Value.int IntKind.i64 0, Value.bool false,
 Value.slice none 0 0,
 Value.string (ByteArray.mk #[]),
 Value.int IntKind.i64 0, Value.int IntKind.i64 0,
 Value.int IntKind.u8 0, Value.int IntKind.u8 0,
 Value.int IntKind.u8 0, Value.int IntKind.u8 0,
 Value.int IntKind.u8 0, Value.int IntKind.u8 0,
 Value.int IntKind.u8 0, Value.int IntKind.u8 0,
 Value.int IntKind.u8 0, Value.int IntKind.u8 0,
 Value.int IntKind.u8 0, Value.int IntKind.u8 0,
 Value.int IntKind.u8 0, Value.int IntKind.u8 0,
 Value.int IntKind.u8 0, Value.int IntKind.u8 0]
 42)
 n_4 w1 →
 S w1 ∧
 CallsS Tryz.prog 20 #[Value.int IntKind.u8 2] w1
 fun (e : Ending) (w' : World) =>
 ∃ (f_3 : Nat → Int),
 e =
 Ending.returned
 (Value.agg
 (arrI IntKind.u8 f_3 16 0).toArray) ∧
 S w' ∧
 CallsS Tryz.prog 19
 #[Value.pointer x,
 Value.agg
 (arrI IntKind.u8 f 32 0).toArray,
 Value.string (ByteArray.mk #[103]),
 Value.agg
 (arrI IntKind.u8 f_3 16 0).toArray,
 Value.int IntKind.i64 102]
 w' fun (e : Ending) (w' : World) =>
 ∃ (x_11 : Int),
 ∃ (f : Nat → Int),
 ∃ (x_12 : ByteArray),
 ∃ (x_13 : Int),
 ∃ (x_14 : Bool),
 ∃ (p : Option Addr),
 ∃ (n_5 : Nat),
 ∃ (c : Nat),
 ∃ (x_15 : ByteArray),
 ∃ (x_16 : Int),
 ∃ (x_17 : Int),
 ∃ (f_4 : Nat → Int),
 ∃ (x_18 : Int),
 e =
 Ending.returned
 (Value.tuple
 #[Value.agg
 ([Value.int IntKind.i64 x_11] ++ arrI IntKind.u8 f 32 0 ++ ([Value.string x_12,
 Value.int IntKind.i64 x_13,
 Value.bool x_14,
 Value.slice p n_5 c,
 Value.string x_15,
 Value.int IntKind.i64 x_16,
 Value.int IntKind.i64 x_17] ++ arrI IntKind.u8 f_4 16 0)).toArray,
 Value.int IntKind.i64 x_18]) ∧
 WrL w' n_4 0 56 ∧
 ∀ (w1 : World),
 PutB w' n_4 0
 ([Value.int IntKind.i64 x_11] ++ arrI IntKind.u8 f 32 0 ++ ([Value.string x_12,
 Value.int IntKind.i64 x_13,
 Value.bool x_14,
 Value.slice p n_5 c,
 Value.string x_15,
 Value.int IntKind.i64 x_16,
 Value.int IntKind.i64 x_17] ++ arrI IntKind.u8 f_4 16 0))
 w1 →
 KeptL [n_1, n] W w1 ∧
 CallsS Tryz.prog 21
 #[Value.pointer x,
 Value.agg
 (arrI IntKind.u8 i 32 0).toArray,
 Value.string
 (ByteArray.mk #[103])]
 w1
 fun (e : Ending)
 (w' : World) =>
 ∃ (f : Nat → Int),
 ∃ (x_19 : ByteArray),
 ∃ (x_20 : ByteArray),
 ∃ (x_21 : Int),
 ∃ (x_22 : Int),
 ∃ (f_5 : Nat → Int),
 ∃ (x_23 : Int),
 ∃ (x_24 : ByteArray),
 ∃ (x_25 : Bool),
 e =
 Ending.returned
 (Value.tuple
 #[Value.agg
 (arrI IntKind.u8 f 32 0 ++ ([Value.string
 x_19,
 Value.string
 x_20,
 Value.int
 IntKind.i64
 x_21,
 Value.int
 IntKind.i64
 x_22] ++ arrI IntKind.u8 f_5 16 0 ++ [Value.int
 IntKind.i64
 x_23,
 Value.string
 x_24])).toArray,
 Value.bool
 x_25]) ∧
 KeptL [n_1, n] w1
 w' ∧
 ∀ (n_6 : Nat)
 (W : World),
 Loc w.heap.size
 [Blk.mk n_6 48
 (arrI IntKind.u8 f 32 0 ++ ([Value.string
 x_19,
 Value.string
 x_20,
 Value.int
 IntKind.i64
 x_21,
 Value.int
 IntKind.i64
 x_22] ++ arrI IntKind.u8 f_5 16 0 ++ [Value.int
 IntKind.i64
 x_23,
 Value.string
 x_24]))
 (wrM 2),
 Blk.mk n_1 33
 [Value.string
 t,
 Value.string
 s]
 0,
 Blk.mk n 32
 (arrI IntKind.u8 i 32 0)
 0]
 w' W →
 ∃ (S :
 World → Prop),
 S W ∧
 ∃ (x_26 :
 Int),
 ∃ (f :
 Nat → Int),
 ∃ (x_27 :
 ByteArray),
 ∃ (x_28 :
 Int),
 ∃ (x_29 :
 Bool),
 ∃ (p :
 Option
 Addr),
 ∃ (n_7 :
 Nat),
 ∃ (c :
 Nat),
 ∃
 (x_30
 :
 ByteArray),
 ∃
 (x_31
 :
 Int),
 ∃
 (x_32
 :
 Int),
 ∃
 (f_6
 :
 Nat →
 Int),
 gimp
 (x_10 ==
 0)
 (∀
 (w' :
 World),
 S
 w' →
 AtL
 w'
 n_3
 0
 ([Value.int
 IntKind.i64
 x_26] ++ arrI IntKind.u8 f 32 0 ++ ([Value.string
 x_27,
 Value.int
 IntKind.i64
 x_28,
 Value.bool
 x_29,
 Value.slice
 p
 n_7
 c,
 Value.string
 x_30,
 Value.int
 IntKind.i64
 x_31,
 Value.int
 IntKind.i64
 x_32] ++ arrI IntKind.u8 f_6 16 0))) ∧
 ∃
 (f_7
 :
 Nat →
 Int),
 gimp
 (x_10 ==
 0)
 (∀
 (w' :
 World),
 S
 w' →
 AtL
 w'
 n
 0
 (arrI IntKind.u8 f_7 32 0)) ∧
 bsp
 (x_10 ==
 0)
 (CallsS
 Tryz.prog
 23
 #[Value.agg
 (arrI IntKind.u8 f_7 32 0).toArray,
 Value.string
 (ByteArray.mk
 #[103]),
 Value.int
 IntKind.i64
 x_10]
 W
 fun
 (e :
 Ending)
 (w' :
 World) =>
 ∃
 (x_33
 :
 Int),
 ∃
 (f_8
 :
 Nat →
 Int),
 ∃
 (x_34
 :
 ByteArray),
 ∃
 (x_35
 :
 Int),
 ∃
 (x_36
 :
 Bool),
 ∃
 (p_1
 :
 Option
 Addr),
 ∃
 (n_8
 :
 Nat),
 ∃
 (c_1
 :
 Nat),
 ∃
 (x_37
 :
 ByteArray),
 ∃
 (x_38
 :
 Int),
 ∃
 (x_39
 :
 Int),
 ∃
 (f_9
 :
 Nat →
 Int),
 e =
 Ending.returned
 (Value.agg
 ([Value.int
 IntKind.i64
 x_33] ++ arrI IntKind.u8 f_8 32 0 ++ ([Value.string
 x_34,
 Value.int
 IntKind.i64
 x_35,
 Value.bool
 x_36,
 Value.slice
 p_1
 n_8
 c_1,
 Value.string
 x_37,
 Value.int
 IntKind.i64
 x_38,
 Value.int
 IntKind.i64
 x_39] ++ arrI IntKind.u8 f_9 16 0)).toArray) ∧
 S
 w' ∧
 CallsS
 Tryz.prog
 22
 #[Value.agg
 ([Value.int
 IntKind.i64
 x_26] ++ arrI IntKind.u8 f 32 0 ++ ([Value.string
 x_27,
 Value.int
 IntKind.i64
 x_28,
 Value.bool
 x_29,
 Value.slice
 p
 n_7
 c,
 Value.string
 x_30,
 Value.int
 IntKind.i64
 x_31,
 Value.int
 IntKind.i64
 x_32] ++ arrI IntKind.u8 f_6 16 0)).toArray,
 Value.agg
 ([Value.int
 IntKind.i64
 x_33] ++ arrI IntKind.u8 f_8 32 0 ++ ([Value.string
 x_34,
 Value.int
 IntKind.i64
 x_35,
 Value.bool
 x_36,
 Value.slice
 p_1
 n_8
 c_1,
 Value.string
 x_37,
 Value.int
 IntKind.i64
 x_38,
 Value.int
 IntKind.i64
 x_39] ++ arrI IntKind.u8 f_9 16 0)).toArray]
 w'
 fun
 (e :
 Ending)
 (w' :
 World) =>
 ∃
 (x_40
 :
 Bool),
 e =
 Ending.returned
 (Value.bool
 x_40) ∧
 S
 w' ∧
 ∃
 (f
 :
 Nat →
 Int),
 gimp
 (true &&
 x_40 &&
 x_18 ==
 10)
 (∀
 (w' :
 World),
 S
 w' →
 AtL
 w'
 n
 0
 (arrI IntKind.u8 f 32 0)) ∧
 bsp
 (true &&
 x_40 &&
 x_18 ==
 10)
 (CallsS
 Tryz.prog
 20
 #[Value.int
 IntKind.u8
 1]
 w'
 fun
 (e :
 Ending)
 (w' :
 World) =>
 ∃
 (f_10
 :
 Nat →
 Int),
 e =
 Ending.returned
 (Value.agg
 (arrI IntKind.u8 f_10 16 0).toArray) ∧
 S
 w' ∧
 CallsS
 Tryz.prog
 24
 #[Value.pointer
 x,
 Value.agg
 (arrI IntKind.u8 f 32 0).toArray,
 Value.string
 (ByteArray.mk
 #[103]),
 Value.agg
 (arrI IntKind.u8 f_10 16 0).toArray,
 Value.string
 (ByteArray.mk
 #[]),
 Value.int
 IntKind.i64
 103]
 w'
 fun
 (e :
 Ending)
 (w' :
 World) =>
 ∃
 (x
 :
 Int),
 e =
 Ending.returned
 (Value.int
 IntKind.i64
 x) ∧
 S
 w' ∧
 ∃
 (x_41
 :
 Int),
 gimp
 (true &&
 x ==
 10 &&
 x_25)
 (∀
 (w' :
 World),
 S
 w' →
 w'.cell?
 (Addr.mk
 n_6
 (0 +
 35)
 none) =
 some
 (Value.int
 IntKind.i64
 x_41)) ∧
 ∃
 (f
 :
 Nat →
 Int),
 gimp
 (true &&
 x ==
 10 &&
 x_25 &&
 x_41 ==
 1)
 (∀
 (w' :
 World),
 S
 w' →
 AtL
 w'
 n_6
 (0 +
 36)
 (arrI IntKind.u8 f 16 0)) ∧
 bsp
 (true &&
 x ==
 10 &&
 x_25 &&
 x_41 ==
 1)
 (CallsS
 Tryz.prog
 20
 #[Value.int
 IntKind.u8
 1]
 w'
 fun
 (e :
 Ending)
 (w' :
 World) =>
 ∃
 (f_11
 :
 Nat →
 Int),
 e =
 Ending.returned
 (Value.agg
 (arrI IntKind.u8 f_11 16 0).toArray) ∧
 S
 w' ∧
 ∃
 (r
 :
 Bool),
 EqP
 Tryz.prog
 45
 (Value.agg
 (arrI IntKind.u8 f 16 0).toArray)
 (Value.agg
 (arrI IntKind.u8 f_11 16 0).toArray)
 r ∧
 ∃
 (x
 :
 Int),
 gimp
 (true &&
 r)
 (∀
 (w' :
 World),
 S
 w' →
 w'.cell?
 (Addr.mk
 n_6
 (0 +
 52)
 none) =
 some
 (Value.int
 IntKind.i64
 x)) ∧
 ∃
 (x_42
 :
 ByteArray),
 gimp
 (true &&
 r &&
 x ==
 101)
 (∀
 (w' :
 World),
 S
 w' →
 w'.cell?
 (Addr.mk
 n_6
 (0 +
 53)
 none) =
 some
 (Value.string
 x_42)) ∧
 KeptL
 [n_6,
 n_1,
 n]
 W
 w' ∧
 R
 (Ending.returned
 (Value.bool
 (true &&
 r &&
 x ==
 101 &&
 x_42.toList ==
 [])))
 w')
 (S
 w' ∧
 ∃
 (x
 :
 Int),
 True ∧
 ∃
 (x_42
 :
 ByteArray),
 True ∧
 KeptL
 [n_6,
 n_1,
 n]
 W
 w' ∧
 R
 (Ending.returned
 (Value.bool
 (false &&
 x ==
 101 &&
 x_42.toList ==
 [])))
 w'))
 (S
 w' ∧
 S
 w' ∧
 ∃
 (x
 :
 Int),
 True ∧
 ∃
 (f
 :
 Nat →
 Int),
 True ∧
 S
 w' ∧
 ∃
 (x
 :
 Int),
 True ∧
 ∃
 (x_41
 :
 ByteArray),
 True ∧
 KeptL
 [n_6,
 n_1,
 n]
 W
 w' ∧
 R
 (Ending.returned
 (Value.bool
 (false &&
 x ==
 101 &&
 x_41.toList ==
 [])))
 w'))
 (S
 W ∧
 S
 W ∧
 ∃
 (f
 :
 Nat →
 Int),
 True ∧
 S
 W ∧
 S
 W ∧
 ∃
 (x
 :
 Int),
 True ∧
 ∃
 (f
 :
 Nat →
 Int),
 True ∧
 S
 W ∧
 ∃
 (x
 :
 Int),
 True ∧
 ∃
 (x_33
 :
 ByteArray),
 True ∧
 KeptL
 [n_6,
 n_1,
 n]
 W
 W ∧
 R
 (Ending.returned
 (Value.bool
 (false &&
 x ==
 101 &&
 x_33.toList ==
 [])))
 W)) ∧
 ∀ (n_2 : Nat) (w1 : World),
 NewB w'
 (Obj.cells
 #[Value.int IntKind.i64 0, Value.int IntKind.u8 0, Value.int IntKind.u8 0,
 Value.int IntKind.u8 0, Value.int IntKind.u8 0, Value.int IntKind.u8 0,
 Value.int IntKind.u8 0, Value.int IntKind.u8 0, Value.int IntKind.u8 0,
 Value.int IntKind.u8 0, Value.int IntKind.u8 0, Value.int IntKind.u8 0,
 Value.int IntKind.u8 0, Value.int IntKind.u8 0, Value.int IntKind.u8 0,
 Value.int IntKind.u8 0, Value.int IntKind.u8 0, Value.int IntKind.u8 0,
 Value.int IntKind.u8 0, Value.int IntKind.u8 0, Value.int IntKind.u8 0,
 Value.int IntKind.u8 0, Value.int IntKind.u8 0, Value.int IntKind.u8 0,
 Value.int IntKind.u8 0, Value.int IntKind.u8 0, Value.int IntKind.u8 0,
 Value.int IntKind.u8 0, Value.int IntKind.u8 0, Value.int IntKind.u8 0,
 Value.int IntKind.u8 0, Value.int IntKind.u8 0, Value.int IntKind.u8 0,
 Value.string (ByteArray.mk #[]), Value.int IntKind.i64 0, Value.bool false,
 Value.slice none 0 0, Value.string (ByteArray.mk #[]), Value.int IntKind.i64 0,
 Value.int IntKind.i64 0, Value.int IntKind.u8 0, Value.int IntKind.u8 0,
 Value.int IntKind.u8 0, Value.int IntKind.u8 0, Value.int IntKind.u8 0,
 Value.int IntKind.u8 0, Value.int IntKind.u8 0, Value.int IntKind.u8 0,
 Value.int IntKind.u8 0, Value.int IntKind.u8 0, Value.int IntKind.u8 0,
 Value.int IntKind.u8 0, Value.int IntKind.u8 0, Value.int IntKind.u8 0,
 Value.int IntKind.u8 0, Value.int IntKind.u8 0]
 42)
 n_2 w1 →
 S w1 ∧
 CallsS Tryz.prog 19
 #[Value.pointer x,
 Value.agg
 (arrI IntKind.u8 f 32 0).toArray,
 Value.string (ByteArray.mk #[103]),
 Value.agg
 (arrI IntKind.u8 f_1 16 0).toArray,
 Value.int IntKind.i64 101]
 w1 fun (e : Ending) (w' : World) =>
 ∃ (x_3 : Int),
 ∃ (f : Nat → Int),
 ∃ (x_4 : ByteArray),
 ∃ (x_5 : Int),
 ∃ (x_6 : Bool),
 ∃ (p : Option Addr),
 ∃ (n_3 : Nat),
 ∃ (c : Nat),
 ∃ (x_7 : ByteArray),
 ∃ (x_8 : Int),
 ∃ (x_9 : Int),
 ∃ (f_2 : Nat → Int),
 ∃ (x_10 : Int),
 e =
 Ending.returned
 (Value.tuple
 #[Value.agg
 ([Value.int IntKind.i64 x_3] ++ arrI IntKind.u8 f 32 0 ++ ([Value.string x_4,
 Value.int IntKind.i64 x_5, Value.bool x_6,
 Value.slice p n_3 c, Value.string x_7,
 Value.int IntKind.i64 x_8, Value.int IntKind.i64 x_9] ++ arrI IntKind.u8 f_2 16 0)).toArray,
 Value.int IntKind.i64 x_10]) ∧
 WrL w' n_2 0 56 ∧
 ∀ (w1 : World),
 PutB w' n_2 0
 ([Value.int IntKind.i64 x_3] ++ arrI IntKind.u8 f 32 0 ++ ([Value.string x_4,
 Value.int IntKind.i64 x_5, Value.bool x_6,
 Value.slice p n_3 c, Value.string x_7,
 Value.int IntKind.i64 x_8, Value.int IntKind.i64 x_9] ++ arrI IntKind.u8 f_2 16 0))
 w1 →
 KeptL [n_1, n] W w1 ∧
 ∀ (W : World),
 Loc w.heap.size
 [Blk.mk n_1 33 [Value.string t, Value.string s] 0,
 Blk.mk n 32
 (arrI IntKind.u8 i 32 0)
 0]
 w1 W →
 ∃ (S : World → Prop),
 S W ∧
 ∃ (f : Nat → Int),
 (∀ (w' : World),
 S w' →
 AtL w' n 0
 (arrI IntKind.u8 f 32 0)) ∧
 (CallsS Tryz.prog 20 #[Value.int IntKind.u8 2] W
 fun (e : Ending) (w' : World) =>
 ∃ (f_3 : Nat → Int),
 e =
 Ending.returned
 (Value.agg
 (arrI IntKind.u8 f_3 16 0).toArray) ∧
 S w' ∧
 (CallsS Tryz.prog 19
 #[Value.pointer x,
 Value.agg
 (arrI IntKind.u8 f 32 0).toArray,
 Value.string (ByteArray.mk #[103]),
 Value.agg
 (arrI IntKind.u8 f_3 16 0).toArray,
 Value.int IntKind.i64 102]
 w' fun (e : Ending) (w' : World) =>
 ∃ (x_11 : Int),
 ∃ (f : Nat → Int),
 ∃ (x_12 : ByteArray),
 ∃ (x_13 : Int),
 ∃ (x_14 : Bool),
 ∃ (p : Option Addr),
 ∃ (n_4 : Nat),
 ∃ (c : Nat),
 ∃ (x_15 : ByteArray),
 ∃ (x_16 : Int),
 ∃ (x_17 : Int),
 ∃ (f_4 : Nat → Int),
 ∃ (x_18 : Int),
 e =
 Ending.returned
 (Value.tuple
 #[Value.agg
 ([Value.int IntKind.i64 x_11] ++ arrI IntKind.u8 f 32 0 ++ ([Value.string x_12,
 Value.int IntKind.i64 x_13,
 Value.bool x_14,
 Value.slice p n_4 c,
 Value.string x_15,
 Value.int IntKind.i64 x_16,
 Value.int IntKind.i64 x_17] ++ arrI IntKind.u8 f_4 16 0)).toArray,
 Value.int IntKind.i64 x_18]) ∧
 ∀ (n_5 : Nat) (w1 : World),
 NewB w'
 (Obj.cells
 #[Value.int IntKind.i64 0,
 Value.int IntKind.u8 0,
 Value.int IntKind.u8 0,
 Value.int IntKind.u8 0,
 Value.int IntKind.u8 0,
 Value.int IntKind.u8 0,
 Value.int IntKind.u8 0,
 Value.int IntKind.u8 0,
 Value.int IntKind.u8 0,
 Value.int IntKind.u8 0,
 Value.int IntKind.u8 0,
 Value.int IntKind.u8 0,
 Value.int IntKind.u8 0,
 Value.int IntKind.u8 0,
 Value.int IntKind.u8 0,
 Value.int IntKind.u8 0,
 Value.int IntKind.u8 0,
 Value.int IntKind.u8 0,
 Value.int IntKind.u8 0,
 Value.int IntKind.u8 0,
 Value.int IntKind.u8 0,
 Value.int IntKind.u8 0,
 Value.int IntKind.u8 0,
 Value.int IntKind.u8 0,
 Value.int IntKind.u8 0,
 Value.int IntKind.u8 0,
 Value.int IntKind.u8 0,
 Value.int IntKind.u8 0,
 Value.int IntKind.u8 0,
 Value.int IntKind.u8 0,
 Value.int IntKind.u8 0,
 Value.int IntKind.u8 0,
 Value.int IntKind.u8 0,
 Value.string
 (ByteArray.mk #[]),
 Value.int IntKind.i64 0,
 Value.bool false,
 Value.slice none 0 0,
 Value.string
 (ByteArray.mk #[]),
 Value.int IntKind.i64 0,
 Value.int IntKind.i64 0,
 Value.int IntKind.u8 0,
 Value.int IntKind.u8 0,
 Value.int IntKind.u8 0,
 Value.int IntKind.u8 0,
 Value.int IntKind.u8 0,
 Value.int IntKind.u8 0,
 Value.int IntKind.u8 0,
 Value.int IntKind.u8 0,
 Value.int IntKind.u8 0,
 Value.int IntKind.u8 0,
 Value.int IntKind.u8 0,
 Value.int IntKind.u8 0,
 Value.int IntKind.u8 0,
 Value.int IntKind.u8 0,
 Value.int IntKind.u8 0,
 Value.int IntKind.u8 0]
 42)
 n_5 w1 →
 S w1 ∧
 WrL w1 n_5 0 56 ∧
 ∀ (w1_1 : World),
 PutB w1 n_5 0
 ([Value.int IntKind.i64 x_11] ++ arrI IntKind.u8 f 32 0 ++ ([Value.string x_12,
 Value.int IntKind.i64 x_13,
 Value.bool x_14,
 Value.slice p n_4 c,
 Value.string x_15,
 Value.int IntKind.i64 x_16,
 Value.int IntKind.i64 x_17] ++ arrI IntKind.u8 f_4 16 0))
 w1_1 →
 KeptL [n_1, n] W w1_1 ∧
 CallsS Tryz.prog 21
 #[Value.pointer x,
 Value.agg
 (arrI IntKind.u8 i 32 0).toArray,
 Value.string
 (ByteArray.mk #[103])]
 w1_1
 fun (e : Ending)
 (w' : World) =>
 ∃ (f : Nat → Int),
 ∃ (x_19 : ByteArray),
 ∃ (x_20 : ByteArray),
 ∃ (x_21 : Int),
 ∃ (x_22 : Int),
 ∃ (f_5 : Nat → Int),
 ∃ (x_23 : Int),
 ∃ (x_24 : ByteArray),
 ∃ (x_25 : Bool),
 e =
 Ending.returned
 (Value.tuple
 #[Value.agg
 (arrI IntKind.u8 f 32 0 ++ ([Value.string
 x_19,
 Value.string
 x_20,
 Value.int
 IntKind.i64
 x_21,
 Value.int
 IntKind.i64
 x_22] ++ arrI IntKind.u8 f_5 16 0 ++ [Value.int
 IntKind.i64
 x_23,
 Value.string
 x_24])).toArray,
 Value.bool
 x_25]) ∧
 KeptL [n_1, n]
 w1_1 w' ∧
 ∀ (n_6 : Nat)
 (W : World),
 Loc w.heap.size
 [Blk.mk n_6 48
 (arrI IntKind.u8 f 32 0 ++ ([Value.string
 x_19,
 Value.string
 x_20,
 Value.int
 IntKind.i64
 x_21,
 Value.int
 IntKind.i64
 x_22] ++ arrI IntKind.u8 f_5 16 0 ++ [Value.int
 IntKind.i64
 x_23,
 Value.string
 x_24]))
 (wrM 2),
 Blk.mk n_1 33
 [Value.string
 t,
 Value.string
 s]
 0,
 Blk.mk n 32
 (arrI IntKind.u8 i 32 0)
 0]
 w' W →
 ∃ (S :
 World → Prop),
 S W ∧
 ∃ (x_26 :
 Int),
 ∃ (f :
 Nat → Int),
 ∃ (x_27 :
 ByteArray),
 ∃ (x_28 :
 Int),
 ∃ (x_29 :
 Bool),
 ∃ (p :
 Option
 Addr),
 ∃ (n_7
 :
 Nat),
 ∃ (c :
 Nat),
 ∃
 (x_30
 :
 ByteArray),
 ∃
 (x_31
 :
 Int),
 ∃
 (x_32
 :
 Int),
 ∃
 (f_6
 :
 Nat →
 Int),
 gimp
 (x_10 ==
 0)
 (∀
 (w' :
 World),
 S
 w' →
 AtL
 w'
 n_2
 0
 ([Value.int
 IntKind.i64
 x_26] ++ arrI IntKind.u8 f 32 0 ++ ([Value.string
 x_27,
 Value.int
 IntKind.i64
 x_28,
 Value.bool
 x_29,
 Value.slice
 p
 n_7
 c,
 Value.string
 x_30,
 Value.int
 IntKind.i64
 x_31,
 Value.int
 IntKind.i64
 x_32] ++ arrI IntKind.u8 f_6 16 0))) ∧
 ∃
 (f_7
 :
 Nat →
 Int),
 gimp
 (x_10 ==
 0)
 (∀
 (w' :
 World),
 S
 w' →
 AtL
 w'
 n
 0
 (arrI IntKind.u8 f_7 32 0)) ∧
 bsp
 (x_10 ==
 0)
 (CallsS
 Tryz.prog
 23
 #[Value.agg
 (arrI IntKind.u8 f_7 32 0).toArray,
 Value.string
 (ByteArray.mk
 #[103]),
 Value.int
 IntKind.i64
 x_10]
 W
 fun
 (e :
 Ending)
 (w' :
 World) =>
 ∃
 (x_33
 :
 Int),
 ∃
 (f_8
 :
 Nat →
 Int),
 ∃
 (x_34
 :
 ByteArray),
 ∃
 (x_35
 :
 Int),
 ∃
 (x_36
 :
 Bool),
 ∃
 (p_1
 :
 Option
 Addr),
 ∃
 (n_8
 :
 Nat),
 ∃
 (c_1
 :
 Nat),
 ∃
 (x_37
 :
 ByteArray),
 ∃
 (x_38
 :
 Int),
 ∃
 (x_39
 :
 Int),
 ∃
 (f_9
 :
 Nat →
 Int),
 e =
 Ending.returned
 (Value.agg
 ([Value.int
 IntKind.i64
 x_33] ++ arrI IntKind.u8 f_8 32 0 ++ ([Value.string
 x_34,
 Value.int
 IntKind.i64
 x_35,
 Value.bool
 x_36,
 Value.slice
 p_1
 n_8
 c_1,
 Value.string
 x_37,
 Value.int
 IntKind.i64
 x_38,
 Value.int
 IntKind.i64
 x_39] ++ arrI IntKind.u8 f_9 16 0)).toArray) ∧
 S
 w' ∧
 CallsS
 Tryz.prog
 22
 #[Value.agg
 ([Value.int
 IntKind.i64
 x_26] ++ arrI IntKind.u8 f 32 0 ++ ([Value.string
 x_27,
 Value.int
 IntKind.i64
 x_28,
 Value.bool
 x_29,
 Value.slice
 p
 n_7
 c,
 Value.string
 x_30,
 Value.int
 IntKind.i64
 x_31,
 Value.int
 IntKind.i64
 x_32] ++ arrI IntKind.u8 f_6 16 0)).toArray,
 Value.agg
 ([Value.int
 IntKind.i64
 x_33] ++ arrI IntKind.u8 f_8 32 0 ++ ([Value.string
 x_34,
 Value.int
 IntKind.i64
 x_35,
 Value.bool
 x_36,
 Value.slice
 p_1
 n_8
 c_1,
 Value.string
 x_37,
 Value.int
 IntKind.i64
 x_38,
 Value.int
 IntKind.i64
 x_39] ++ arrI IntKind.u8 f_9 16 0)).toArray]
 w'
 fun
 (e :
 Ending)
 (w' :
 World) =>
 ∃
 (x_40
 :
 Bool),
 e =
 Ending.returned
 (Value.bool
 x_40) ∧
 S
 w' ∧
 ∃
 (f
 :
 Nat →
 Int),
 gimp
 (true &&
 x_40 &&
 x_18 ==
 10)
 (∀
 (w' :
 World),
 S
 w' →
 AtL
 w'
 n
 0
 (arrI IntKind.u8 f 32 0)) ∧
 bsp
 (true &&
 x_40 &&
 x_18 ==
 10)
 (CallsS
 Tryz.prog
 20
 #[Value.int
 IntKind.u8
 1]
 w'
 fun
 (e :
 Ending)
 (w' :
 World) =>
 ∃
 (f_10
 :
 Nat →
 Int),
 e =
 Ending.returned
 (Value.agg
 (arrI IntKind.u8 f_10 16 0).toArray) ∧
 S
 w' ∧
 CallsS
 Tryz.prog
 24
 #[Value.pointer
 x,
 Value.agg
 (arrI IntKind.u8 f 32 0).toArray,
 Value.string
 (ByteArray.mk
 #[103]),
 Value.agg
 (arrI IntKind.u8 f_10 16 0).toArray,
 Value.string
 (ByteArray.mk
 #[]),
 Value.int
 IntKind.i64
 103]
 w'
 fun
 (e :
 Ending)
 (w' :
 World) =>
 ∃
 (x
 :
 Int),
 e =
 Ending.returned
 (Value.int
 IntKind.i64
 x) ∧
 S
 w' ∧
 ∃
 (x_41
 :
 Int),
 gimp
 (true &&
 x ==
 10 &&
 x_25)
 (∀
 (w' :
 World),
 S
 w' →
 w'.cell?
 (Addr.mk
 n_6
 (0 +
 35)
 none) =
 some
 (Value.int
 IntKind.i64
 x_41)) ∧
 ∃
 (f
 :
 Nat →
 Int),
 gimp
 (true &&
 x ==
 10 &&
 x_25 &&
 x_41 ==
 1)
 (∀
 (w' :
 World),
 S
 w' →
 AtL
 w'
 n_6
 (0 +
 36)
 (arrI IntKind.u8 f 16 0)) ∧
 bsp
 (true &&
 x ==
 10 &&
 x_25 &&
 x_41 ==
 1)
 (CallsS
 Tryz.prog
 20
 #[Value.int
 IntKind.u8
 1]
 w'
 fun
 (e :
 Ending)
 (w' :
 World) =>
 ∃
 (f_11
 :
 Nat →
 Int),
 e =
 Ending.returned
 (Value.agg
 (arrI IntKind.u8 f_11 16 0).toArray) ∧
 S
 w' ∧
 ∃
 (r
 :
 Bool),
 EqP
 Tryz.prog
 45
 (Value.agg
 (arrI IntKind.u8 f 16 0).toArray)
 (Value.agg
 (arrI IntKind.u8 f_11 16 0).toArray)
 r ∧
 ∃
 (x
 :
 Int),
 gimp
 (true &&
 r)
 (∀
 (w' :
 World),
 S
 w' →
 w'.cell?
 (Addr.mk
 n_6
 (0 +
 52)
 none) =
 some
 (Value.int
 IntKind.i64
 x)) ∧
 ∃
 (x_42
 :
 ByteArray),
 gimp
 (true &&
 r &&
 x ==
 101)
 (∀
 (w' :
 World),
 S
 w' →
 w'.cell?
 (Addr.mk
 n_6
 (0 +
 53)
 none) =
 some
 (Value.string
 x_42)) ∧
 KeptL
 [n_6,
 n_1,
 n]
 W
 w' ∧
 R
 (Ending.returned
 (Value.bool
 (true &&
 r &&
 x ==
 101 &&
 x_42.toList ==
 [])))
 w')
 (S
 w' ∧
 ∃
 (x
 :
 Int),
 True ∧
 ∃
 (x_42
 :
 ByteArray),
 True ∧
 KeptL
 [n_6,
 n_1,
 n]
 W
 w' ∧
 R
 (Ending.returned
 (Value.bool
 (false &&
 x ==
 101 &&
 x_42.toList ==
 [])))
 w'))
 (S
 w' ∧
 S
 w' ∧
 ∃
 (x
 :
 Int),
 True ∧
 ∃
 (f
 :
 Nat →
 Int),
 True ∧
 S
 w' ∧
 ∃
 (x
 :
 Int),
 True ∧
 ∃
 (x_41
 :
 ByteArray),
 True ∧
 KeptL
 [n_6,
 n_1,
 n]
 W
 w' ∧
 R
 (Ending.returned
 (Value.bool
 (false &&
 x ==
 101 &&
 x_41.toList ==
 [])))
 w'))
 (S
 W ∧
 S
 W ∧
 ∃
 (f
 :
 Nat →
 Int),
 True ∧
 S
 W ∧
 S
 W ∧
 ∃
 (x
 :
 Int),
 True ∧
 ∃
 (f
 :
 Nat →
 Int),
 True ∧
 S
 W ∧
 ∃
 (x
 :
 Int),
 True ∧
 ∃
 (x_33
 :
 ByteArray),
 True ∧
 KeptL
 [n_6,
 n_1,
 n]
 W
 W ∧
 R
 (Ending.returned
 (Value.bool
 (false &&
 x ==
 101 &&
 x_33.toList ==
 [])))
 W)) ∧
 ∀ (n_4 : Nat) (w1 : World),
 NewB w'
 (Obj.cells
 #[Value.int IntKind.i64 0,
 Value.int IntKind.u8 0,
 Value.int IntKind.u8 0,
 Value.int IntKind.u8 0,
 Value.int IntKind.u8 0,
 Value.int IntKind.u8 0,
 Value.int IntKind.u8 0,
 Value.int IntKind.u8 0,
 Value.int IntKind.u8 0,
 Value.int IntKind.u8 0,
 Value.int IntKind.u8 0,
 Value.int IntKind.u8 0,
 Value.int IntKind.u8 0,
 Value.int IntKind.u8 0,
 Value.int IntKind.u8 0,
 Value.int IntKind.u8 0,
 Value.int IntKind.u8 0,
 Value.int IntKind.u8 0,
 Value.int IntKind.u8 0,
 Value.int IntKind.u8 0,
 Value.int IntKind.u8 0,
 Value.int IntKind.u8 0,
 Value.int IntKind.u8 0,
 Value.int IntKind.u8 0,
 Value.int IntKind.u8 0,
 Value.int IntKind.u8 0,
 Value.int IntKind.u8 0,
 Value.int IntKind.u8 0,
 Value.int IntKind.u8 0,
 Value.int IntKind.u8 0,
 Value.int IntKind.u8 0,
 Value.int IntKind.u8 0,
 Value.int IntKind.u8 0,
 Value.string (ByteArray.mk #[]),
 Value.int IntKind.i64 0, Value.bool false,
 Value.slice none 0 0,
 Value.string (ByteArray.mk #[]),
 Value.int IntKind.i64 0,
 Value.int IntKind.i64 0,
 Value.int IntKind.u8 0,
 Value.int IntKind.u8 0,
 Value.int IntKind.u8 0,
 Value.int IntKind.u8 0,
 Value.int IntKind.u8 0,
 Value.int IntKind.u8 0,
 Value.int IntKind.u8 0,
 Value.int IntKind.u8 0,
 Value.int IntKind.u8 0,
 Value.int IntKind.u8 0,
 Value.int IntKind.u8 0,
 Value.int IntKind.u8 0,
 Value.int IntKind.u8 0,
 Value.int IntKind.u8 0,
 Value.int IntKind.u8 0,
 Value.int IntKind.u8 0]
 42)
 n_4 w1 →
 S w1 ∧
 CallsS Tryz.prog 19
 #[Value.pointer x,
 Value.agg
 (arrI IntKind.u8 f 32 0).toArray,
 Value.string (ByteArray.mk #[103]),
 Value.agg
 (arrI IntKind.u8 f_3 16 0).toArray,
 Value.int IntKind.i64 102]
 w1 fun (e : Ending) (w' : World) =>
 ∃ (x_11 : Int),
 ∃ (f : Nat → Int),
 ∃ (x_12 : ByteArray),
 ∃ (x_13 : Int),
 ∃ (x_14 : Bool),
 ∃ (p : Option Addr),
 ∃ (n_5 : Nat),
 ∃ (c : Nat),
 ∃ (x_15 : ByteArray),
 ∃ (x_16 : Int),
 ∃ (x_17 : Int),
 ∃ (f_4 : Nat → Int),
 ∃ (x_18 : Int),
 e =
 Ending.returned
 (Value.tuple
 #[Value.agg
 ([Value.int IntKind.i64
 x_11] ++ arrI IntKind.u8 f 32 0 ++ ([Value.string x_12,
 Value.int IntKind.i64 x_13,
 Value.bool x_14,
 Value.slice p n_5 c,
 Value.string x_15,
 Value.int IntKind.i64 x_16,
 Value.int IntKind.i64 x_17] ++ arrI IntKind.u8 f_4 16 0)).toArray,
 Value.int IntKind.i64
 x_18]) ∧
 WrL w' n_4 0 56 ∧
 ∀ (w1 : World),
 PutB w' n_4 0
 ([Value.int IntKind.i64 x_11] ++ arrI IntKind.u8 f 32 0 ++ ([Value.string x_12,
 Value.int IntKind.i64 x_13,
 Value.bool x_14,
 Value.slice p n_5 c,
 Value.string x_15,
 Value.int IntKind.i64 x_16,
 Value.int IntKind.i64 x_17] ++ arrI IntKind.u8 f_4 16 0))
 w1 →
 KeptL [n_1, n] W w1 ∧
 CallsS Tryz.prog 21
 #[Value.pointer x,
 Value.agg
 (arrI IntKind.u8 i 32 0).toArray,
 Value.string
 (ByteArray.mk #[103])]
 w1
 fun (e : Ending)
 (w' : World) =>
 ∃ (f : Nat → Int),
 ∃ (x_19 : ByteArray),
 ∃ (x_20 : ByteArray),
 ∃ (x_21 : Int),
 ∃ (x_22 : Int),
 ∃ (f_5 : Nat → Int),
 ∃ (x_23 : Int),
 ∃ (x_24 : ByteArray),
 ∃ (x_25 : Bool),
 e =
 Ending.returned
 (Value.tuple
 #[Value.agg
 (arrI IntKind.u8 f 32 0 ++ ([Value.string
 x_19,
 Value.string
 x_20,
 Value.int
 IntKind.i64
 x_21,
 Value.int
 IntKind.i64
 x_22] ++ arrI IntKind.u8 f_5 16 0 ++ [Value.int
 IntKind.i64
 x_23,
 Value.string
 x_24])).toArray,
 Value.bool
 x_25]) ∧
 KeptL [n_1, n] w1
 w' ∧
 ∀ (n_6 : Nat)
 (W : World),
 Loc w.heap.size
 [Blk.mk n_6 48
 (arrI IntKind.u8 f 32 0 ++ ([Value.string
 x_19,
 Value.string
 x_20,
 Value.int
 IntKind.i64
 x_21,
 Value.int
 IntKind.i64
 x_22] ++ arrI IntKind.u8 f_5 16 0 ++ [Value.int
 IntKind.i64
 x_23,
 Value.string
 x_24]))
 (wrM 2),
 Blk.mk n_1 33
 [Value.string
 t,
 Value.string
 s]
 0,
 Blk.mk n 32
 (arrI IntKind.u8 i 32 0)
 0]
 w' W →
 ∃ (S :
 World → Prop),
 S W ∧
 ∃ (x_26 :
 Int),
 ∃ (f :
 Nat → Int),
 ∃ (x_27 :
 ByteArray),
 ∃ (x_28 :
 Int),
 ∃ (x_29 :
 Bool),
 ∃ (p :
 Option
 Addr),
 ∃ (n_7
 :
 Nat),
 ∃ (c :
 Nat),
 ∃
 (x_30
 :
 ByteArray),
 ∃
 (x_31
 :
 Int),
 ∃
 (x_32
 :
 Int),
 ∃
 (f_6
 :
 Nat →
 Int),
 gimp
 (x_10 ==
 0)
 (∀
 (w' :
 World),
 S
 w' →
 AtL
 w'
 n_2
 0
 ([Value.int
 IntKind.i64
 x_26] ++ arrI IntKind.u8 f 32 0 ++ ([Value.string
 x_27,
 Value.int
 IntKind.i64
 x_28,
 Value.bool
 x_29,
 Value.slice
 p
 n_7
 c,
 Value.string
 x_30,
 Value.int
 IntKind.i64
 x_31,
 Value.int
 IntKind.i64
 x_32] ++ arrI IntKind.u8 f_6 16 0))) ∧
 ∃
 (f_7
 :
 Nat →
 Int),
 gimp
 (x_10 ==
 0)
 (∀
 (w' :
 World),
 S
 w' →
 AtL
 w'
 n
 0
 (arrI IntKind.u8 f_7 32 0)) ∧
 bsp
 (x_10 ==
 0)
 (CallsS
 Tryz.prog
 23
 #[Value.agg
 (arrI IntKind.u8 f_7 32 0).toArray,
 Value.string
 (ByteArray.mk
 #[103]),
 Value.int
 IntKind.i64
 x_10]
 W
 fun
 (e :
 Ending)
 (w' :
 World) =>
 ∃
 (x_33
 :
 Int),
 ∃
 (f_8
 :
 Nat →
 Int),
 ∃
 (x_34
 :
 ByteArray),
 ∃
 (x_35
 :
 Int),
 ∃
 (x_36
 :
 Bool),
 ∃
 (p_1
 :
 Option
 Addr),
 ∃
 (n_8
 :
 Nat),
 ∃
 (c_1
 :
 Nat),
 ∃
 (x_37
 :
 ByteArray),
 ∃
 (x_38
 :
 Int),
 ∃
 (x_39
 :
 Int),
 ∃
 (f_9
 :
 Nat →
 Int),
 e =
 Ending.returned
 (Value.agg
 ([Value.int
 IntKind.i64
 x_33] ++ arrI IntKind.u8 f_8 32 0 ++ ([Value.string
 x_34,
 Value.int
 IntKind.i64
 x_35,
 Value.bool
 x_36,
 Value.slice
 p_1
 n_8
 c_1,
 Value.string
 x_37,
 Value.int
 IntKind.i64
 x_38,
 Value.int
 IntKind.i64
 x_39] ++ arrI IntKind.u8 f_9 16 0)).toArray) ∧
 S
 w' ∧
 CallsS
 Tryz.prog
 22
 #[Value.agg
 ([Value.int
 IntKind.i64
 x_26] ++ arrI IntKind.u8 f 32 0 ++ ([Value.string
 x_27,
 Value.int
 IntKind.i64
 x_28,
 Value.bool
 x_29,
 Value.slice
 p
 n_7
 c,
 Value.string
 x_30,
 Value.int
 IntKind.i64
 x_31,
 Value.int
 IntKind.i64
 x_32] ++ arrI IntKind.u8 f_6 16 0)).toArray,
 Value.agg
 ([Value.int
 IntKind.i64
 x_33] ++ arrI IntKind.u8 f_8 32 0 ++ ([Value.string
 x_34,
 Value.int
 IntKind.i64
 x_35,
 Value.bool
 x_36,
 Value.slice
 p_1
 n_8
 c_1,
 Value.string
 x_37,
 Value.int
 IntKind.i64
 x_38,
 Value.int
 IntKind.i64
 x_39] ++ arrI IntKind.u8 f_9 16 0)).toArray]
 w'
 fun
 (e :
 Ending)
 (w' :
 World) =>
 ∃
 (x_40
 :
 Bool),
 e =
 Ending.returned
 (Value.bool
 x_40) ∧
 S
 w' ∧
 ∃
 (f
 :
 Nat →
 Int),
 gimp
 (true &&
 x_40 &&
 x_18 ==
 10)
 (∀
 (w' :
 World),
 S
 w' →
 AtL
 w'
 n
 0
 (arrI IntKind.u8 f 32 0)) ∧
 bsp
 (true &&
 x_40 &&
 x_18 ==
 10)
 (CallsS
 Tryz.prog
 20
 #[Value.int
 IntKind.u8
 1]
 w'
 fun
 (e :
 Ending)
 (w' :
 World) =>
 ∃
 (f_10
 :
 Nat →
 Int),
 e =
 Ending.returned
 (Value.agg
 (arrI IntKind.u8 f_10 16 0).toArray) ∧
 S
 w' ∧
 CallsS
 Tryz.prog
 24
 #[Value.pointer
 x,
 Value.agg
 (arrI IntKind.u8 f 32 0).toArray,
 Value.string
 (ByteArray.mk
 #[103]),
 Value.agg
 (arrI IntKind.u8 f_10 16 0).toArray,
 Value.string
 (ByteArray.mk
 #[]),
 Value.int
 IntKind.i64
 103]
 w'
 fun
 (e :
 Ending)
 (w' :
 World) =>
 ∃
 (x
 :
 Int),
 e =
 Ending.returned
 (Value.int
 IntKind.i64
 x) ∧
 S
 w' ∧
 ∃
 (x_41
 :
 Int),
 gimp
 (true &&
 x ==
 10 &&
 x_25)
 (∀
 (w' :
 World),
 S
 w' →
 w'.cell?
 (Addr.mk
 n_6
 (0 +
 35)
 none) =
 some
 (Value.int
 IntKind.i64
 x_41)) ∧
 ∃
 (f
 :
 Nat →
 Int),
 gimp
 (true &&
 x ==
 10 &&
 x_25 &&
 x_41 ==
 1)
 (∀
 (w' :
 World),
 S
 w' →
 AtL
 w'
 n_6
 (0 +
 36)
 (arrI IntKind.u8 f 16 0)) ∧
 bsp
 (true &&
 x ==
 10 &&
 x_25 &&
 x_41 ==
 1)
 (CallsS
 Tryz.prog
 20
 #[Value.int
 IntKind.u8
 1]
 w'
 fun
 (e :
 Ending)
 (w' :
 World) =>
 ∃
 (f_11
 :
 Nat →
 Int),
 e =
 Ending.returned
 (Value.agg
 (arrI IntKind.u8 f_11 16 0).toArray) ∧
 S
 w' ∧
 ∃
 (r
 :
 Bool),
 EqP
 Tryz.prog
 45
 (Value.agg
 (arrI IntKind.u8 f 16 0).toArray)
 (Value.agg
 (arrI IntKind.u8 f_11 16 0).toArray)
 r ∧
 ∃
 (x
 :
 Int),
 gimp
 (true &&
 r)
 (∀
 (w' :
 World),
 S
 w' →
 w'.cell?
 (Addr.mk
 n_6
 (0 +
 52)
 none) =
 some
 (Value.int
 IntKind.i64
 x)) ∧
 ∃
 (x_42
 :
 ByteArray),
 gimp
 (true &&
 r &&
 x ==
 101)
 (∀
 (w' :
 World),
 S
 w' →
 w'.cell?
 (Addr.mk
 n_6
 (0 +
 53)
 none) =
 some
 (Value.string
 x_42)) ∧
 KeptL
 [n_6,
 n_1,
 n]
 W
 w' ∧
 R
 (Ending.returned
 (Value.bool
 (true &&
 r &&
 x ==
 101 &&
 x_42.toList ==
 [])))
 w')
 (S
 w' ∧
 ∃
 (x
 :
 Int),
 True ∧
 ∃
 (x_42
 :
 ByteArray),
 True ∧
 KeptL
 [n_6,
 n_1,
 n]
 W
 w' ∧
 R
 (Ending.returned
 (Value.bool
 (false &&
 x ==
 101 &&
 x_42.toList ==
 [])))
 w'))
 (S
 w' ∧
 S
 w' ∧
 ∃
 (x
 :
 Int),
 True ∧
 ∃
 (f
 :
 Nat →
 Int),
 True ∧
 S
 w' ∧
 ∃
 (x
 :
 Int),
 True ∧
 ∃
 (x_41
 :
 ByteArray),
 True ∧
 KeptL
 [n_6,
 n_1,
 n]
 W
 w' ∧
 R
 (Ending.returned
 (Value.bool
 (false &&
 x ==
 101 &&
 x_41.toList ==
 [])))
 w'))
 (S
 W ∧
 S
 W ∧
 ∃
 (f
 :
 Nat →
 Int),
 True ∧
 S
 W ∧
 S
 W ∧
 ∃
 (x
 :
 Int),
 True ∧
 ∃
 (f
 :
 Nat →
 Int),
 True ∧
 S
 W ∧
 ∃
 (x
 :
 Int),
 True ∧
 ∃
 (x_33
 :
 ByteArray),
 True ∧
 KeptL
 [n_6,
 n_1,
 n]
 W
 W ∧
 R
 (Ending.returned
 (Value.bool
 (false &&
 x ==
 101 &&
 x_33.toList ==
 [])))
 W)) ∧
 ∀ (n_4 : Nat) (w1 : World),
 NewB W
 (Obj.cells
 #[Value.int IntKind.i64 0, Value.int IntKind.u8 0,
 Value.int IntKind.u8 0, Value.int IntKind.u8 0,
 Value.int IntKind.u8 0, Value.int IntKind.u8 0,
 Value.int IntKind.u8 0, Value.int IntKind.u8 0,
 Value.int IntKind.u8 0, Value.int IntKind.u8 0,
 Value.int IntKind.u8 0, Value.int IntKind.u8 0,
 Value.int IntKind.u8 0, Value.int IntKind.u8 0,
 Value.int IntKind.u8 0, Value.int IntKind.u8 0,
 Value.int IntKind.u8 0, Value.int IntKind.u8 0,
 Value.int IntKind.u8 0, Value.int IntKind.u8 0,
 Value.int IntKind.u8 0, Value.int IntKind.u8 0,
 Value.int IntKind.u8 0, Value.int IntKind.u8 0,
 Value.int IntKind.u8 0, Value.int IntKind.u8 0,
 Value.int IntKind.u8 0, Value.int IntKind.u8 0,
 Value.int IntKind.u8 0, Value.int IntKind.u8 0,
 Value.int IntKind.u8 0, Value.int IntKind.u8 0,
 Value.int IntKind.u8 0,
 Value.string (ByteArray.mk #[]),
 Value.int IntKind.i64 0, Value.bool false,
 Value.slice none 0 0,
 Value.string (ByteArray.mk #[]),
 Value.int IntKind.i64 0, Value.int IntKind.i64 0,
 Value.int IntKind.u8 0, Value.int IntKind.u8 0,
 Value.int IntKind.u8 0, Value.int IntKind.u8 0,
 Value.int IntKind.u8 0, Value.int IntKind.u8 0,
 Value.int IntKind.u8 0, Value.int IntKind.u8 0,
 Value.int IntKind.u8 0, Value.int IntKind.u8 0,
 Value.int IntKind.u8 0, Value.int IntKind.u8 0,
 Value.int IntKind.u8 0, Value.int IntKind.u8 0,
 Value.int IntKind.u8 0, Value.int IntKind.u8 0]
 42)
 n_4 w1 →
 S w1 ∧
 CallsS Tryz.prog 20 #[Value.int IntKind.u8 2] w1
 fun (e : Ending) (w' : World) =>
 ∃ (f_3 : Nat → Int),
 e =
 Ending.returned
 (Value.agg
 (arrI IntKind.u8 f_3 16 0).toArray) ∧
 S w' ∧
 CallsS Tryz.prog 19
 #[Value.pointer x,
 Value.agg
 (arrI IntKind.u8 f 32 0).toArray,
 Value.string (ByteArray.mk #[103]),
 Value.agg
 (arrI IntKind.u8 f_3 16 0).toArray,
 Value.int IntKind.i64 102]
 w' fun (e : Ending) (w' : World) =>
 ∃ (x_11 : Int),
 ∃ (f : Nat → Int),
 ∃ (x_12 : ByteArray),
 ∃ (x_13 : Int),
 ∃ (x_14 : Bool),
 ∃ (p : Option Addr),
 ∃ (n_5 : Nat),
 ∃ (c : Nat),
 ∃ (x_15 : ByteArray),
 ∃ (x_16 : Int),
 ∃ (x_17 : Int),
 ∃ (f_4 : Nat → Int),
 ∃ (x_18 : Int),
 e =
 Ending.returned
 (Value.tuple
 #[Value.agg
 ([Value.int IntKind.i64 x_11] ++ arrI IntKind.u8 f 32 0 ++ ([Value.string x_12,
 Value.int IntKind.i64 x_13,
 Value.bool x_14,
 Value.slice p n_5 c,
 Value.string x_15,
 Value.int IntKind.i64 x_16,
 Value.int IntKind.i64 x_17] ++ arrI IntKind.u8 f_4 16 0)).toArray,
 Value.int IntKind.i64 x_18]) ∧
 WrL w' n_4 0 56 ∧
 ∀ (w1 : World),
 PutB w' n_4 0
 ([Value.int IntKind.i64 x_11] ++ arrI IntKind.u8 f 32 0 ++ ([Value.string x_12,
 Value.int IntKind.i64 x_13,
 Value.bool x_14,
 Value.slice p n_5 c,
 Value.string x_15,
 Value.int IntKind.i64 x_16,
 Value.int IntKind.i64 x_17] ++ arrI IntKind.u8 f_4 16 0))
 w1 →
 KeptL [n_1, n] W w1 ∧
 CallsS Tryz.prog 21
 #[Value.pointer x,
 Value.agg
 (arrI IntKind.u8 i 32 0).toArray,
 Value.string
 (ByteArray.mk #[103])]
 w1
 fun (e : Ending)
 (w' : World) =>
 ∃ (f : Nat → Int),
 ∃ (x_19 : ByteArray),
 ∃ (x_20 : ByteArray),
 ∃ (x_21 : Int),
 ∃ (x_22 : Int),
 ∃ (f_5 : Nat → Int),
 ∃ (x_23 : Int),
 ∃ (x_24 : ByteArray),
 ∃ (x_25 : Bool),
 e =
 Ending.returned
 (Value.tuple
 #[Value.agg
 (arrI IntKind.u8 f 32 0 ++ ([Value.string
 x_19,
 Value.string
 x_20,
 Value.int
 IntKind.i64
 x_21,
 Value.int
 IntKind.i64
 x_22] ++ arrI IntKind.u8 f_5 16 0 ++ [Value.int
 IntKind.i64
 x_23,
 Value.string
 x_24])).toArray,
 Value.bool
 x_25]) ∧
 KeptL [n_1, n] w1
 w' ∧
 ∀ (n_6 : Nat)
 (W : World),
 Loc w.heap.size
 [Blk.mk n_6 48
 (arrI IntKind.u8 f 32 0 ++ ([Value.string
 x_19,
 Value.string
 x_20,
 Value.int
 IntKind.i64
 x_21,
 Value.int
 IntKind.i64
 x_22] ++ arrI IntKind.u8 f_5 16 0 ++ [Value.int
 IntKind.i64
 x_23,
 Value.string
 x_24]))
 (wrM 2),
 Blk.mk n_1 33
 [Value.string
 t,
 Value.string
 s]
 0,
 Blk.mk n 32
 (arrI IntKind.u8 i 32 0)
 0]
 w' W →
 ∃ (S :
 World → Prop),
 S W ∧
 ∃ (x_26 :
 Int),
 ∃ (f :
 Nat → Int),
 ∃ (x_27 :
 ByteArray),
 ∃ (x_28 :
 Int),
 ∃ (x_29 :
 Bool),
 ∃ (p :
 Option
 Addr),
 ∃ (n_7 :
 Nat),
 ∃ (c :
 Nat),
 ∃
 (x_30
 :
 ByteArray),
 ∃
 (x_31
 :
 Int),
 ∃
 (x_32
 :
 Int),
 ∃
 (f_6
 :
 Nat →
 Int),
 gimp
 (x_10 ==
 0)
 (∀
 (w' :
 World),
 S
 w' →
 AtL
 w'
 n_2
 0
 ([Value.int
 IntKind.i64
 x_26] ++ arrI IntKind.u8 f 32 0 ++ ([Value.string
 x_27,
 Value.int
 IntKind.i64
 x_28,
 Value.bool
 x_29,
 Value.slice
 p
 n_7
 c,
 Value.string
 x_30,
 Value.int
 IntKind.i64
 x_31,
 Value.int
 IntKind.i64
 x_32] ++ arrI IntKind.u8 f_6 16 0))) ∧
 ∃
 (f_7
 :
 Nat →
 Int),
 gimp
 (x_10 ==
 0)
 (∀
 (w' :
 World),
 S
 w' →
 AtL
 w'
 n
 0
 (arrI IntKind.u8 f_7 32 0)) ∧
 bsp
 (x_10 ==
 0)
 (CallsS
 Tryz.prog
 23
 #[Value.agg
 (arrI IntKind.u8 f_7 32 0).toArray,
 Value.string
 (ByteArray.mk
 #[103]),
 Value.int
 IntKind.i64
 x_10]
 W
 fun
 (e :
 Ending)
 (w' :
 World) =>
 ∃
 (x_33
 :
 Int),
 ∃
 (f_8
 :
 Nat →
 Int),
 ∃
 (x_34
 :
 ByteArray),
 ∃
 (x_35
 :
 Int),
 ∃
 (x_36
 :
 Bool),
 ∃
 (p_1
 :
 Option
 Addr),
 ∃
 (n_8
 :
 Nat),
 ∃
 (c_1
 :
 Nat),
 ∃
 (x_37
 :
 ByteArray),
 ∃
 (x_38
 :
 Int),
 ∃
 (x_39
 :
 Int),
 ∃
 (f_9
 :
 Nat →
 Int),
 e =
 Ending.returned
 (Value.agg
 ([Value.int
 IntKind.i64
 x_33] ++ arrI IntKind.u8 f_8 32 0 ++ ([Value.string
 x_34,
 Value.int
 IntKind.i64
 x_35,
 Value.bool
 x_36,
 Value.slice
 p_1
 n_8
 c_1,
 Value.string
 x_37,
 Value.int
 IntKind.i64
 x_38,
 Value.int
 IntKind.i64
 x_39] ++ arrI IntKind.u8 f_9 16 0)).toArray) ∧
 S
 w' ∧
 CallsS
 Tryz.prog
 22
 #[Value.agg
 ([Value.int
 IntKind.i64
 x_26] ++ arrI IntKind.u8 f 32 0 ++ ([Value.string
 x_27,
 Value.int
 IntKind.i64
 x_28,
 Value.bool
 x_29,
 Value.slice
 p
 n_7
 c,
 Value.string
 x_30,
 Value.int
 IntKind.i64
 x_31,
 Value.int
 IntKind.i64
 x_32] ++ arrI IntKind.u8 f_6 16 0)).toArray,
 Value.agg
 ([Value.int
 IntKind.i64
 x_33] ++ arrI IntKind.u8 f_8 32 0 ++ ([Value.string
 x_34,
 Value.int
 IntKind.i64
 x_35,
 Value.bool
 x_36,
 Value.slice
 p_1
 n_8
 c_1,
 Value.string
 x_37,
 Value.int
 IntKind.i64
 x_38,
 Value.int
 IntKind.i64
 x_39] ++ arrI IntKind.u8 f_9 16 0)).toArray]
 w'
 fun
 (e :
 Ending)
 (w' :
 World) =>
 ∃
 (x_40
 :
 Bool),
 e =
 Ending.returned
 (Value.bool
 x_40) ∧
 S
 w' ∧
 ∃
 (f
 :
 Nat →
 Int),
 gimp
 (true &&
 x_40 &&
 x_18 ==
 10)
 (∀
 (w' :
 World),
 S
 w' →
 AtL
 w'
 n
 0
 (arrI IntKind.u8 f 32 0)) ∧
 bsp
 (true &&
 x_40 &&
 x_18 ==
 10)
 (CallsS
 Tryz.prog
 20
 #[Value.int
 IntKind.u8
 1]
 w'
 fun
 (e :
 Ending)
 (w' :
 World) =>
 ∃
 (f_10
 :
 Nat →
 Int),
 e =
 Ending.returned
 (Value.agg
 (arrI IntKind.u8 f_10 16 0).toArray) ∧
 S
 w' ∧
 CallsS
 Tryz.prog
 24
 #[Value.pointer
 x,
 Value.agg
 (arrI IntKind.u8 f 32 0).toArray,
 Value.string
 (ByteArray.mk
 #[103]),
 Value.agg
 (arrI IntKind.u8 f_10 16 0).toArray,
 Value.string
 (ByteArray.mk
 #[]),
 Value.int
 IntKind.i64
 103]
 w'
 fun
 (e :
 Ending)
 (w' :
 World) =>
 ∃
 (x
 :
 Int),
 e =
 Ending.returned
 (Value.int
 IntKind.i64
 x) ∧
 S
 w' ∧
 ∃
 (x_41
 :
 Int),
 gimp
 (true &&
 x ==
 10 &&
 x_25)
 (∀
 (w' :
 World),
 S
 w' →
 w'.cell?
 (Addr.mk
 n_6
 (0 +
 35)
 none) =
 some
 (Value.int
 IntKind.i64
 x_41)) ∧
 ∃
 (f
 :
 Nat →
 Int),
 gimp
 (true &&
 x ==
 10 &&
 x_25 &&
 x_41 ==
 1)
 (∀
 (w' :
 World),
 S
 w' →
 AtL
 w'
 n_6
 (0 +
 36)
 (arrI IntKind.u8 f 16 0)) ∧
 bsp
 (true &&
 x ==
 10 &&
 x_25 &&
 x_41 ==
 1)
 (CallsS
 Tryz.prog
 20
 #[Value.int
 IntKind.u8
 1]
 w'
 fun
 (e :
 Ending)
 (w' :
 World) =>
 ∃
 (f_11
 :
 Nat →
 Int),
 e =
 Ending.returned
 (Value.agg
 (arrI IntKind.u8 f_11 16 0).toArray) ∧
 S
 w' ∧
 ∃
 (r
 :
 Bool),
 EqP
 Tryz.prog
 45
 (Value.agg
 (arrI IntKind.u8 f 16 0).toArray)
 (Value.agg
 (arrI IntKind.u8 f_11 16 0).toArray)
 r ∧
 ∃
 (x
 :
 Int),
 gimp
 (true &&
 r)
 (∀
 (w' :
 World),
 S
 w' →
 w'.cell?
 (Addr.mk
 n_6
 (0 +
 52)
 none) =
 some
 (Value.int
 IntKind.i64
 x)) ∧
 ∃
 (x_42
 :
 ByteArray),
 gimp
 (true &&
 r &&
 x ==
 101)
 (∀
 (w' :
 World),
 S
 w' →
 w'.cell?
 (Addr.mk
 n_6
 (0 +
 53)
 none) =
 some
 (Value.string
 x_42)) ∧
 KeptL
 [n_6,
 n_1,
 n]
 W
 w' ∧
 R
 (Ending.returned
 (Value.bool
 (true &&
 r &&
 x ==
 101 &&
 x_42.toList ==
 [])))
 w')
 (S
 w' ∧
 ∃
 (x
 :
 Int),
 True ∧
 ∃
 (x_42
 :
 ByteArray),
 True ∧
 KeptL
 [n_6,
 n_1,
 n]
 W
 w' ∧
 R
 (Ending.returned
 (Value.bool
 (false &&
 x ==
 101 &&
 x_42.toList ==
 [])))
 w'))
 (S
 w' ∧
 S
 w' ∧
 ∃
 (x
 :
 Int),
 True ∧
 ∃
 (f
 :
 Nat →
 Int),
 True ∧
 S
 w' ∧
 ∃
 (x
 :
 Int),
 True ∧
 ∃
 (x_41
 :
 ByteArray),
 True ∧
 KeptL
 [n_6,
 n_1,
 n]
 W
 w' ∧
 R
 (Ending.returned
 (Value.bool
 (false &&
 x ==
 101 &&
 x_41.toList ==
 [])))
 w'))
 (S
 W ∧
 S
 W ∧
 ∃
 (f
 :
 Nat →
 Int),
 True ∧
 S
 W ∧
 S
 W ∧
 ∃
 (x
 :
 Int),
 True ∧
 ∃
 (f
 :
 Nat →
 Int),
 True ∧
 S
 W ∧
 ∃
 (x
 :
 Int),
 True ∧
 ∃
 (x_33
 :
 ByteArray),
 True ∧
 KeptL
 [n_6,
 n_1,
 n]
 W
 W ∧
 R
 (Ending.returned
 (Value.bool
 (false &&
 x ==
 101 &&
 x_33.toList ==
 [])))
 W)) ∧
 ∀ (n_2 : Nat) (w1 : World),
 NewB W
 (Obj.cells
 #[Value.int IntKind.i64 0, Value.int IntKind.u8 0, Value.int IntKind.u8 0,
 Value.int IntKind.u8 0, Value.int IntKind.u8 0, Value.int IntKind.u8 0,
 Value.int IntKind.u8 0, Value.int IntKind.u8 0, Value.int IntKind.u8 0,
 Value.int IntKind.u8 0, Value.int IntKind.u8 0, Value.int IntKind.u8 0,
 Value.int IntKind.u8 0, Value.int IntKind.u8 0, Value.int IntKind.u8 0,
 Value.int IntKind.u8 0, Value.int IntKind.u8 0, Value.int IntKind.u8 0,
 Value.int IntKind.u8 0, Value.int IntKind.u8 0, Value.int IntKind.u8 0,
 Value.int IntKind.u8 0, Value.int IntKind.u8 0, Value.int IntKind.u8 0,
 Value.int IntKind.u8 0, Value.int IntKind.u8 0, Value.int IntKind.u8 0,
 Value.int IntKind.u8 0, Value.int IntKind.u8 0, Value.int IntKind.u8 0,
 Value.int IntKind.u8 0, Value.int IntKind.u8 0, Value.int IntKind.u8 0,
 Value.string (ByteArray.mk #[]), Value.int IntKind.i64 0, Value.bool false,
 Value.slice none 0 0, Value.string (ByteArray.mk #[]), Value.int IntKind.i64 0,
 Value.int IntKind.i64 0, Value.int IntKind.u8 0, Value.int IntKind.u8 0,
 Value.int IntKind.u8 0, Value.int IntKind.u8 0, Value.int IntKind.u8 0,
 Value.int IntKind.u8 0, Value.int IntKind.u8 0, Value.int IntKind.u8 0,
 Value.int IntKind.u8 0, Value.int IntKind.u8 0, Value.int IntKind.u8 0,
 Value.int IntKind.u8 0, Value.int IntKind.u8 0, Value.int IntKind.u8 0,
 Value.int IntKind.u8 0, Value.int IntKind.u8 0]
 42)
 n_2 w1 →
 S w1 ∧
 CallsS Tryz.prog 20 #[Value.int IntKind.u8 1] w1 fun (e : Ending) (w' : World) =>
 ∃ (f_1 : Nat → Int),
 e =
 Ending.returned
 (Value.agg
 (arrI IntKind.u8 f_1 16 0).toArray) ∧
 S w' ∧
 CallsS Tryz.prog 19
 #[Value.pointer x,
 Value.agg
 (arrI IntKind.u8 f 32 0).toArray,
 Value.string (ByteArray.mk #[103]),
 Value.agg
 (arrI IntKind.u8 f_1 16 0).toArray,
 Value.int IntKind.i64 101]
 w' fun (e : Ending) (w' : World) =>
 ∃ (x_3 : Int),
 ∃ (f : Nat → Int),
 ∃ (x_4 : ByteArray),
 ∃ (x_5 : Int),
 ∃ (x_6 : Bool),
 ∃ (p : Option Addr),
 ∃ (n_3 : Nat),
 ∃ (c : Nat),
 ∃ (x_7 : ByteArray),
 ∃ (x_8 : Int),
 ∃ (x_9 : Int),
 ∃ (f_2 : Nat → Int),
 ∃ (x_10 : Int),
 e =
 Ending.returned
 (Value.tuple
 #[Value.agg
 ([Value.int IntKind.i64 x_3] ++ arrI IntKind.u8 f 32 0 ++ ([Value.string x_4,
 Value.int IntKind.i64 x_5, Value.bool x_6,
 Value.slice p n_3 c, Value.string x_7,
 Value.int IntKind.i64 x_8, Value.int IntKind.i64 x_9] ++ arrI IntKind.u8 f_2 16 0)).toArray,
 Value.int IntKind.i64 x_10]) ∧
 WrL w' n_2 0 56 ∧
 ∀ (w1 : World),
 PutB w' n_2 0
 ([Value.int IntKind.i64 x_3] ++ arrI IntKind.u8 f 32 0 ++ ([Value.string x_4,
 Value.int IntKind.i64 x_5, Value.bool x_6, Value.slice p n_3 c,
 Value.string x_7, Value.int IntKind.i64 x_8,
 Value.int IntKind.i64 x_9] ++ arrI IntKind.u8 f_2 16 0))
 w1 →
 KeptL [n_1, n] W w1 ∧
 ∀ (W : World),
 Loc w.heap.size
 [Blk.mk n_1 33 [Value.string t, Value.string s] 0,
 Blk.mk n 32
 (arrI IntKind.u8 i 32 0)
 0]
 w1 W →
 ∃ (S : World → Prop),
 S W ∧
 ∃ (f : Nat → Int),
 (∀ (w' : World),
 S w' →
 AtL w' n 0
 (arrI IntKind.u8 f 32 0)) ∧
 (CallsS Tryz.prog 20 #[Value.int IntKind.u8 2] W
 fun (e : Ending) (w' : World) =>
 ∃ (f_3 : Nat → Int),
 e =
 Ending.returned
 (Value.agg
 (arrI IntKind.u8 f_3 16 0).toArray) ∧
 S w' ∧
 (CallsS Tryz.prog 19
 #[Value.pointer x,
 Value.agg
 (arrI IntKind.u8 f 32 0).toArray,
 Value.string (ByteArray.mk #[103]),
 Value.agg
 (arrI IntKind.u8 f_3 16 0).toArray,
 Value.int IntKind.i64 102]
 w' fun (e : Ending) (w' : World) =>
 ∃ (x_11 : Int),
 ∃ (f : Nat → Int),
 ∃ (x_12 : ByteArray),
 ∃ (x_13 : Int),
 ∃ (x_14 : Bool),
 ∃ (p : Option Addr),
 ∃ (n_4 : Nat),
 ∃ (c : Nat),
 ∃ (x_15 : ByteArray),
 ∃ (x_16 : Int),
 ∃ (x_17 : Int),
 ∃ (f_4 : Nat → Int),
 ∃ (x_18 : Int),
 e =
 Ending.returned
 (Value.tuple
 #[Value.agg
 ([Value.int IntKind.i64 x_11] ++ arrI IntKind.u8 f 32 0 ++ ([Value.string x_12,
 Value.int IntKind.i64 x_13,
 Value.bool x_14,
 Value.slice p n_4 c,
 Value.string x_15,
 Value.int IntKind.i64 x_16,
 Value.int IntKind.i64 x_17] ++ arrI IntKind.u8 f_4 16 0)).toArray,
 Value.int IntKind.i64 x_18]) ∧
 ∀ (n_5 : Nat) (w1 : World),
 NewB w'
 (Obj.cells
 #[Value.int IntKind.i64 0,
 Value.int IntKind.u8 0,
 Value.int IntKind.u8 0,
 Value.int IntKind.u8 0,
 Value.int IntKind.u8 0,
 Value.int IntKind.u8 0,
 Value.int IntKind.u8 0,
 Value.int IntKind.u8 0,
 Value.int IntKind.u8 0,
 Value.int IntKind.u8 0,
 Value.int IntKind.u8 0,
 Value.int IntKind.u8 0,
 Value.int IntKind.u8 0,
 Value.int IntKind.u8 0,
 Value.int IntKind.u8 0,
 Value.int IntKind.u8 0,
 Value.int IntKind.u8 0,
 Value.int IntKind.u8 0,
 Value.int IntKind.u8 0,
 Value.int IntKind.u8 0,
 Value.int IntKind.u8 0,
 Value.int IntKind.u8 0,
 Value.int IntKind.u8 0,
 Value.int IntKind.u8 0,
 Value.int IntKind.u8 0,
 Value.int IntKind.u8 0,
 Value.int IntKind.u8 0,
 Value.int IntKind.u8 0,
 Value.int IntKind.u8 0,
 Value.int IntKind.u8 0,
 Value.int IntKind.u8 0,
 Value.int IntKind.u8 0,
 Value.int IntKind.u8 0,
 Value.string (ByteArray.mk #[]),
 Value.int IntKind.i64 0,
 Value.bool false,
 Value.slice none 0 0,
 Value.string (ByteArray.mk #[]),
 Value.int IntKind.i64 0,
 Value.int IntKind.i64 0,
 Value.int IntKind.u8 0,
 Value.int IntKind.u8 0,
 Value.int IntKind.u8 0,
 Value.int IntKind.u8 0,
 Value.int IntKind.u8 0,
 Value.int IntKind.u8 0,
 Value.int IntKind.u8 0,
 Value.int IntKind.u8 0,
 Value.int IntKind.u8 0,
 Value.int IntKind.u8 0,
 Value.int IntKind.u8 0,
 Value.int IntKind.u8 0,
 Value.int IntKind.u8 0,
 Value.int IntKind.u8 0,
 Value.int IntKind.u8 0,
 Value.int IntKind.u8 0]
 42)
 n_5 w1 →
 S w1 ∧
 WrL w1 n_5 0 56 ∧
 ∀ (w1_1 : World),
 PutB w1 n_5 0
 ([Value.int IntKind.i64 x_11] ++ arrI IntKind.u8 f 32 0 ++ ([Value.string x_12,
 Value.int IntKind.i64 x_13,
 Value.bool x_14,
 Value.slice p n_4 c,
 Value.string x_15,
 Value.int IntKind.i64 x_16,
 Value.int IntKind.i64 x_17] ++ arrI IntKind.u8 f_4 16 0))
 w1_1 →
 KeptL [n_1, n] W w1_1 ∧
 CallsS Tryz.prog 21
 #[Value.pointer x,
 Value.agg
 (arrI IntKind.u8 i 32 0).toArray,
 Value.string
 (ByteArray.mk #[103])]
 w1_1
 fun (e : Ending)
 (w' : World) =>
 ∃ (f : Nat → Int),
 ∃ (x_19 : ByteArray),
 ∃ (x_20 : ByteArray),
 ∃ (x_21 : Int),
 ∃ (x_22 : Int),
 ∃ (f_5 : Nat → Int),
 ∃ (x_23 : Int),
 ∃ (x_24 : ByteArray),
 ∃ (x_25 : Bool),
 e =
 Ending.returned
 (Value.tuple
 #[Value.agg
 (arrI IntKind.u8 f 32 0 ++ ([Value.string
 x_19,
 Value.string
 x_20,
 Value.int
 IntKind.i64
 x_21,
 Value.int
 IntKind.i64
 x_22] ++ arrI IntKind.u8 f_5 16 0 ++ [Value.int
 IntKind.i64
 x_23,
 Value.string
 x_24])).toArray,
 Value.bool
 x_25]) ∧
 KeptL [n_1, n] w1_1
 w' ∧
 ∀ (n_6 : Nat)
 (W : World),
 Loc w.heap.size
 [Blk.mk n_6 48
 (arrI IntKind.u8 f 32 0 ++ ([Value.string
 x_19,
 Value.string
 x_20,
 Value.int
 IntKind.i64
 x_21,
 Value.int
 IntKind.i64
 x_22] ++ arrI IntKind.u8 f_5 16 0 ++ [Value.int
 IntKind.i64
 x_23,
 Value.string
 x_24]))
 (wrM 2),
 Blk.mk n_1 33
 [Value.string
 t,
 Value.string
 s]
 0,
 Blk.mk n 32
 (arrI IntKind.u8 i 32 0)
 0]
 w' W →
 ∃ (S :
 World → Prop),
 S W ∧
 ∃ (x_26 :
 Int),
 ∃ (f :
 Nat → Int),
 ∃ (x_27 :
 ByteArray),
 ∃ (x_28 :
 Int),
 ∃ (x_29 :
 Bool),
 ∃ (p :
 Option
 Addr),
 ∃ (n_7 :
 Nat),
 ∃ (c :
 Nat),
 ∃
 (x_30
 :
 ByteArray),
 ∃
 (x_31
 :
 Int),
 ∃
 (x_32
 :
 Int),
 ∃
 (f_6
 :
 Nat →
 Int),
 gimp
 (x_10 ==
 0)
 (∀
 (w' :
 World),
 S
 w' →
 AtL
 w'
 n_2
 0
 ([Value.int
 IntKind.i64
 x_26] ++ arrI IntKind.u8 f 32 0 ++ ([Value.string
 x_27,
 Value.int
 IntKind.i64
 x_28,
 Value.bool
 x_29,
 Value.slice
 p
 n_7
 c,
 Value.string
 x_30,
 Value.int
 IntKind.i64
 x_31,
 Value.int
 IntKind.i64
 x_32] ++ arrI IntKind.u8 f_6 16 0))) ∧
 ∃
 (f_7
 :
 Nat →
 Int),
 gimp
 (x_10 ==
 0)
 (∀
 (w' :
 World),
 S
 w' →
 AtL
 w'
 n
 0
 (arrI IntKind.u8 f_7 32 0)) ∧
 bsp
 (x_10 ==
 0)
 (CallsS
 Tryz.prog
 23
 #[Value.agg
 (arrI IntKind.u8 f_7 32 0).toArray,
 Value.string
 (ByteArray.mk
 #[103]),
 Value.int
 IntKind.i64
 x_10]
 W
 fun
 (e :
 Ending)
 (w' :
 World) =>
 ∃
 (x_33
 :
 Int),
 ∃
 (f_8
 :
 Nat →
 Int),
 ∃
 (x_34
 :
 ByteArray),
 ∃
 (x_35
 :
 Int),
 ∃
 (x_36
 :
 Bool),
 ∃
 (p_1
 :
 Option
 Addr),
 ∃
 (n_8
 :
 Nat),
 ∃
 (c_1
 :
 Nat),
 ∃
 (x_37
 :
 ByteArray),
 ∃
 (x_38
 :
 Int),
 ∃
 (x_39
 :
 Int),
 ∃
 (f_9
 :
 Nat →
 Int),
 e =
 Ending.returned
 (Value.agg
 ([Value.int
 IntKind.i64
 x_33] ++ arrI IntKind.u8 f_8 32 0 ++ ([Value.string
 x_34,
 Value.int
 IntKind.i64
 x_35,
 Value.bool
 x_36,
 Value.slice
 p_1
 n_8
 c_1,
 Value.string
 x_37,
 Value.int
 IntKind.i64
 x_38,
 Value.int
 IntKind.i64
 x_39] ++ arrI IntKind.u8 f_9 16 0)).toArray) ∧
 S
 w' ∧
 CallsS
 Tryz.prog
 22
 #[Value.agg
 ([Value.int
 IntKind.i64
 x_26] ++ arrI IntKind.u8 f 32 0 ++ ([Value.string
 x_27,
 Value.int
 IntKind.i64
 x_28,
 Value.bool
 x_29,
 Value.slice
 p
 n_7
 c,
 Value.string
 x_30,
 Value.int
 IntKind.i64
 x_31,
 Value.int
 IntKind.i64
 x_32] ++ arrI IntKind.u8 f_6 16 0)).toArray,
 Value.agg
 ([Value.int
 IntKind.i64
 x_33] ++ arrI IntKind.u8 f_8 32 0 ++ ([Value.string
 x_34,
 Value.int
 IntKind.i64
 x_35,
 Value.bool
 x_36,
 Value.slice
 p_1
 n_8
 c_1,
 Value.string
 x_37,
 Value.int
 IntKind.i64
 x_38,
 Value.int
 IntKind.i64
 x_39] ++ arrI IntKind.u8 f_9 16 0)).toArray]
 w'
 fun
 (e :
 Ending)
 (w' :
 World) =>
 ∃
 (x_40
 :
 Bool),
 e =
 Ending.returned
 (Value.bool
 x_40) ∧
 S
 w' ∧
 ∃
 (f
 :
 Nat →
 Int),
 gimp
 (true &&
 x_40 &&
 x_18 ==
 10)
 (∀
 (w' :
 World),
 S
 w' →
 AtL
 w'
 n
 0
 (arrI IntKind.u8 f 32 0)) ∧
 bsp
 (true &&
 x_40 &&
 x_18 ==
 10)
 (CallsS
 Tryz.prog
 20
 #[Value.int
 IntKind.u8
 1]
 w'
 fun
 (e :
 Ending)
 (w' :
 World) =>
 ∃
 (f_10
 :
 Nat →
 Int),
 e =
 Ending.returned
 (Value.agg
 (arrI IntKind.u8 f_10 16 0).toArray) ∧
 S
 w' ∧
 CallsS
 Tryz.prog
 24
 #[Value.pointer
 x,
 Value.agg
 (arrI IntKind.u8 f 32 0).toArray,
 Value.string
 (ByteArray.mk
 #[103]),
 Value.agg
 (arrI IntKind.u8 f_10 16 0).toArray,
 Value.string
 (ByteArray.mk
 #[]),
 Value.int
 IntKind.i64
 103]
 w'
 fun
 (e :
 Ending)
 (w' :
 World) =>
 ∃
 (x
 :
 Int),
 e =
 Ending.returned
 (Value.int
 IntKind.i64
 x) ∧
 S
 w' ∧
 ∃
 (x_41
 :
 Int),
 gimp
 (true &&
 x ==
 10 &&
 x_25)
 (∀
 (w' :
 World),
 S
 w' →
 w'.cell?
 (Addr.mk
 n_6
 (0 +
 35)
 none) =
 some
 (Value.int
 IntKind.i64
 x_41)) ∧
 ∃
 (f
 :
 Nat →
 Int),
 gimp
 (true &&
 x ==
 10 &&
 x_25 &&
 x_41 ==
 1)
 (∀
 (w' :
 World),
 S
 w' →
 AtL
 w'
 n_6
 (0 +
 36)
 (arrI IntKind.u8 f 16 0)) ∧
 bsp
 (true &&
 x ==
 10 &&
 x_25 &&
 x_41 ==
 1)
 (CallsS
 Tryz.prog
 20
 #[Value.int
 IntKind.u8
 1]
 w'
 fun
 (e :
 Ending)
 (w' :
 World) =>
 ∃
 (f_11
 :
 Nat →
 Int),
 e =
 Ending.returned
 (Value.agg
 (arrI IntKind.u8 f_11 16 0).toArray) ∧
 S
 w' ∧
 ∃
 (r
 :
 Bool),
 EqP
 Tryz.prog
 45
 (Value.agg
 (arrI IntKind.u8 f 16 0).toArray)
 (Value.agg
 (arrI IntKind.u8 f_11 16 0).toArray)
 r ∧
 ∃
 (x
 :
 Int),
 gimp
 (true &&
 r)
 (∀
 (w' :
 World),
 S
 w' →
 w'.cell?
 (Addr.mk
 n_6
 (0 +
 52)
 none) =
 some
 (Value.int
 IntKind.i64
 x)) ∧
 ∃
 (x_42
 :
 ByteArray),
 gimp
 (true &&
 r &&
 x ==
 101)
 (∀
 (w' :
 World),
 S
 w' →
 w'.cell?
 (Addr.mk
 n_6
 (0 +
 53)
 none) =
 some
 (Value.string
 x_42)) ∧
 KeptL
 [n_6,
 n_1,
 n]
 W
 w' ∧
 R
 (Ending.returned
 (Value.bool
 (true &&
 r &&
 x ==
 101 &&
 x_42.toList ==
 [])))
 w')
 (S
 w' ∧
 ∃
 (x
 :
 Int),
 True ∧
 ∃
 (x_42
 :
 ByteArray),
 True ∧
 KeptL
 [n_6,
 n_1,
 n]
 W
 w' ∧
 R
 (Ending.returned
 (Value.bool
 (false &&
 x ==
 101 &&
 x_42.toList ==
 [])))
 w'))
 (S
 w' ∧
 S
 w' ∧
 ∃
 (x
 :
 Int),
 True ∧
 ∃
 (f
 :
 Nat →
 Int),
 True ∧
 S
 w' ∧
 ∃
 (x
 :
 Int),
 True ∧
 ∃
 (x_41
 :
 ByteArray),
 True ∧
 KeptL
 [n_6,
 n_1,
 n]
 W
 w' ∧
 R
 (Ending.returned
 (Value.bool
 (false &&
 x ==
 101 &&
 x_41.toList ==
 [])))
 w'))
 (S
 W ∧
 S
 W ∧
 ∃
 (f
 :
 Nat →
 Int),
 True ∧
 S
 W ∧
 S
 W ∧
 ∃
 (x
 :
 Int),
 True ∧
 ∃
 (f
 :
 Nat →
 Int),
 True ∧
 S
 W ∧
 ∃
 (x
 :
 Int),
 True ∧
 ∃
 (x_33
 :
 ByteArray),
 True ∧
 KeptL
 [n_6,
 n_1,
 n]
 W
 W ∧
 R
 (Ending.returned
 (Value.bool
 (false &&
 x ==
 101 &&
 x_33.toList ==
 [])))
 W)) ∧
 ∀ (n_4 : Nat) (w1 : World),
 NewB w'
 (Obj.cells
 #[Value.int IntKind.i64 0,
 Value.int IntKind.u8 0, Value.int IntKind.u8 0,
 Value.int IntKind.u8 0, Value.int IntKind.u8 0,
 Value.int IntKind.u8 0, Value.int IntKind.u8 0,
 Value.int IntKind.u8 0, Value.int IntKind.u8 0,
 Value.int IntKind.u8 0, Value.int IntKind.u8 0,
 Value.int IntKind.u8 0, Value.int IntKind.u8 0,
 Value.int IntKind.u8 0, Value.int IntKind.u8 0,
 Value.int IntKind.u8 0, Value.int IntKind.u8 0,
 Value.int IntKind.u8 0, Value.int IntKind.u8 0,
 Value.int IntKind.u8 0, Value.int IntKind.u8 0,
 Value.int IntKind.u8 0, Value.int IntKind.u8 0,
 Value.int IntKind.u8 0, Value.int IntKind.u8 0,
 Value.int IntKind.u8 0, Value.int IntKind.u8 0,
 Value.int IntKind.u8 0, Value.int IntKind.u8 0,
 Value.int IntKind.u8 0, Value.int IntKind.u8 0,
 Value.int IntKind.u8 0, Value.int IntKind.u8 0,
 Value.string (ByteArray.mk #[]),
 Value.int IntKind.i64 0, Value.bool false,
 Value.slice none 0 0,
 Value.string (ByteArray.mk #[]),
 Value.int IntKind.i64 0,
 Value.int IntKind.i64 0,
 Value.int IntKind.u8 0, Value.int IntKind.u8 0,
 Value.int IntKind.u8 0, Value.int IntKind.u8 0,
 Value.int IntKind.u8 0, Value.int IntKind.u8 0,
 Value.int IntKind.u8 0, Value.int IntKind.u8 0,
 Value.int IntKind.u8 0, Value.int IntKind.u8 0,
 Value.int IntKind.u8 0, Value.int IntKind.u8 0,
 Value.int IntKind.u8 0, Value.int IntKind.u8 0,
 Value.int IntKind.u8 0, Value.int IntKind.u8 0]
 42)
 n_4 w1 →
 S w1 ∧
 CallsS Tryz.prog 19
 #[Value.pointer x,
 Value.agg
 (arrI IntKind.u8 f 32 0).toArray,
 Value.string (ByteArray.mk #[103]),
 Value.agg
 (arrI IntKind.u8 f_3 16 0).toArray,
 Value.int IntKind.i64 102]
 w1 fun (e : Ending) (w' : World) =>
 ∃ (x_11 : Int),
 ∃ (f : Nat → Int),
 ∃ (x_12 : ByteArray),
 ∃ (x_13 : Int),
 ∃ (x_14 : Bool),
 ∃ (p : Option Addr),
 ∃ (n_5 : Nat),
 ∃ (c : Nat),
 ∃ (x_15 : ByteArray),
 ∃ (x_16 : Int),
 ∃ (x_17 : Int),
 ∃ (f_4 : Nat → Int),
 ∃ (x_18 : Int),
 e =
 Ending.returned
 (Value.tuple
 #[Value.agg
 ([Value.int IntKind.i64 x_11] ++ arrI IntKind.u8 f 32 0 ++ ([Value.string x_12,
 Value.int IntKind.i64 x_13,
 Value.bool x_14,
 Value.slice p n_5 c,
 Value.string x_15,
 Value.int IntKind.i64 x_16,
 Value.int IntKind.i64 x_17] ++ arrI IntKind.u8 f_4 16 0)).toArray,
 Value.int IntKind.i64 x_18]) ∧
 WrL w' n_4 0 56 ∧
 ∀ (w1 : World),
 PutB w' n_4 0
 ([Value.int IntKind.i64 x_11] ++ arrI IntKind.u8 f 32 0 ++ ([Value.string x_12,
 Value.int IntKind.i64 x_13,
 Value.bool x_14,
 Value.slice p n_5 c,
 Value.string x_15,
 Value.int IntKind.i64 x_16,
 Value.int IntKind.i64 x_17] ++ arrI IntKind.u8 f_4 16 0))
 w1 →
 KeptL [n_1, n] W w1 ∧
 CallsS Tryz.prog 21
 #[Value.pointer x,
 Value.agg
 (arrI IntKind.u8 i 32 0).toArray,
 Value.string
 (ByteArray.mk #[103])]
 w1
 fun (e : Ending)
 (w' : World) =>
 ∃ (f : Nat → Int),
 ∃ (x_19 : ByteArray),
 ∃ (x_20 : ByteArray),
 ∃ (x_21 : Int),
 ∃ (x_22 : Int),
 ∃ (f_5 : Nat → Int),
 ∃ (x_23 : Int),
 ∃ (x_24 : ByteArray),
 ∃ (x_25 : Bool),
 e =
 Ending.returned
 (Value.tuple
 #[Value.agg
 (arrI IntKind.u8 f 32 0 ++ ([Value.string
 x_19,
 Value.string
 x_20,
 Value.int
 IntKind.i64
 x_21,
 Value.int
 IntKind.i64
 x_22] ++ arrI IntKind.u8 f_5 16 0 ++ [Value.int
 IntKind.i64
 x_23,
 Value.string
 x_24])).toArray,
 Value.bool
 x_25]) ∧
 KeptL [n_1, n] w1
 w' ∧
 ∀ (n_6 : Nat)
 (W : World),
 Loc w.heap.size
 [Blk.mk n_6 48
 (arrI IntKind.u8 f 32 0 ++ ([Value.string
 x_19,
 Value.string
 x_20,
 Value.int
 IntKind.i64
 x_21,
 Value.int
 IntKind.i64
 x_22] ++ arrI IntKind.u8 f_5 16 0 ++ [Value.int
 IntKind.i64
 x_23,
 Value.string
 x_24]))
 (wrM 2),
 Blk.mk n_1 33
 [Value.string
 t,
 Value.string
 s]
 0,
 Blk.mk n 32
 (arrI IntKind.u8 i 32 0)
 0]
 w' W →
 ∃ (S :
 World → Prop),
 S W ∧
 ∃ (x_26 :
 Int),
 ∃ (f :
 Nat → Int),
 ∃ (x_27 :
 ByteArray),
 ∃ (x_28 :
 Int),
 ∃ (x_29 :
 Bool),
 ∃ (p :
 Option
 Addr),
 ∃ (n_7 :
 Nat),
 ∃ (c :
 Nat),
 ∃
 (x_30
 :
 ByteArray),
 ∃
 (x_31
 :
 Int),
 ∃
 (x_32
 :
 Int),
 ∃
 (f_6
 :
 Nat →
 Int),
 gimp
 (x_10 ==
 0)
 (∀
 (w' :
 World),
 S
 w' →
 AtL
 w'
 n_2
 0
 ([Value.int
 IntKind.i64
 x_26] ++ arrI IntKind.u8 f 32 0 ++ ([Value.string
 x_27,
 Value.int
 IntKind.i64
 x_28,
 Value.bool
 x_29,
 Value.slice
 p
 n_7
 c,
 Value.string
 x_30,
 Value.int
 IntKind.i64
 x_31,
 Value.int
 IntKind.i64
 x_32] ++ arrI IntKind.u8 f_6 16 0))) ∧
 ∃
 (f_7
 :
 Nat →
 Int),
 gimp
 (x_10 ==
 0)
 (∀
 (w' :
 World),
 S
 w' →
 AtL
 w'
 n
 0
 (arrI IntKind.u8 f_7 32 0)) ∧
 bsp
 (x_10 ==
 0)
 (CallsS
 Tryz.prog
 23
 #[Value.agg
 (arrI IntKind.u8 f_7 32 0).toArray,
 Value.string
 (ByteArray.mk
 #[103]),
 Value.int
 IntKind.i64
 x_10]
 W
 fun
 (e :
 Ending)
 (w' :
 World) =>
 ∃
 (x_33
 :
 Int),
 ∃
 (f_8
 :
 Nat →
 Int),
 ∃
 (x_34
 :
 ByteArray),
 ∃
 (x_35
 :
 Int),
 ∃
 (x_36
 :
 Bool),
 ∃
 (p_1
 :
 Option
 Addr),
 ∃
 (n_8
 :
 Nat),
 ∃
 (c_1
 :
 Nat),
 ∃
 (x_37
 :
 ByteArray),
 ∃
 (x_38
 :
 Int),
 ∃
 (x_39
 :
 Int),
 ∃
 (f_9
 :
 Nat →
 Int),
 e =
 Ending.returned
 (Value.agg
 ([Value.int
 IntKind.i64
 x_33] ++ arrI IntKind.u8 f_8 32 0 ++ ([Value.string
 x_34,
 Value.int
 IntKind.i64
 x_35,
 Value.bool
 x_36,
 Value.slice
 p_1
 n_8
 c_1,
 Value.string
 x_37,
 Value.int
 IntKind.i64
 x_38,
 Value.int
 IntKind.i64
 x_39] ++ arrI IntKind.u8 f_9 16 0)).toArray) ∧
 S
 w' ∧
 CallsS
 Tryz.prog
 22
 #[Value.agg
 ([Value.int
 IntKind.i64
 x_26] ++ arrI IntKind.u8 f 32 0 ++ ([Value.string
 x_27,
 Value.int
 IntKind.i64
 x_28,
 Value.bool
 x_29,
 Value.slice
 p
 n_7
 c,
 Value.string
 x_30,
 Value.int
 IntKind.i64
 x_31,
 Value.int
 IntKind.i64
 x_32] ++ arrI IntKind.u8 f_6 16 0)).toArray,
 Value.agg
 ([Value.int
 IntKind.i64
 x_33] ++ arrI IntKind.u8 f_8 32 0 ++ ([Value.string
 x_34,
 Value.int
 IntKind.i64
 x_35,
 Value.bool
 x_36,
 Value.slice
 p_1
 n_8
 c_1,
 Value.string
 x_37,
 Value.int
 IntKind.i64
 x_38,
 Value.int
 IntKind.i64
 x_39] ++ arrI IntKind.u8 f_9 16 0)).toArray]
 w'
 fun
 (e :
 Ending)
 (w' :
 World) =>
 ∃
 (x_40
 :
 Bool),
 e =
 Ending.returned
 (Value.bool
 x_40) ∧
 S
 w' ∧
 ∃
 (f
 :
 Nat →
 Int),
 gimp
 (true &&
 x_40 &&
 x_18 ==
 10)
 (∀
 (w' :
 World),
 S
 w' →
 AtL
 w'
 n
 0
 (arrI IntKind.u8 f 32 0)) ∧
 bsp
 (true &&
 x_40 &&
 x_18 ==
 10)
 (CallsS
 Tryz.prog
 20
 #[Value.int
 IntKind.u8
 1]
 w'
 fun
 (e :
 Ending)
 (w' :
 World) =>
 ∃
 (f_10
 :
 Nat →
 Int),
 e =
 Ending.returned
 (Value.agg
 (arrI IntKind.u8 f_10 16 0).toArray) ∧
 S
 w' ∧
 CallsS
 Tryz.prog
 24
 #[Value.pointer
 x,
 Value.agg
 (arrI IntKind.u8 f 32 0).toArray,
 Value.string
 (ByteArray.mk
 #[103]),
 Value.agg
 (arrI IntKind.u8 f_10 16 0).toArray,
 Value.string
 (ByteArray.mk
 #[]),
 Value.int
 IntKind.i64
 103]
 w'
 fun
 (e :
 Ending)
 (w' :
 World) =>
 ∃
 (x
 :
 Int),
 e =
 Ending.returned
 (Value.int
 IntKind.i64
 x) ∧
 S
 w' ∧
 ∃
 (x_41
 :
 Int),
 gimp
 (true &&
 x ==
 10 &&
 x_25)
 (∀
 (w' :
 World),
 S
 w' →
 w'.cell?
 (Addr.mk
 n_6
 (0 +
 35)
 none) =
 some
 (Value.int
 IntKind.i64
 x_41)) ∧
 ∃
 (f
 :
 Nat →
 Int),
 gimp
 (true &&
 x ==
 10 &&
 x_25 &&
 x_41 ==
 1)
 (∀
 (w' :
 World),
 S
 w' →
 AtL
 w'
 n_6
 (0 +
 36)
 (arrI IntKind.u8 f 16 0)) ∧
 bsp
 (true &&
 x ==
 10 &&
 x_25 &&
 x_41 ==
 1)
 (CallsS
 Tryz.prog
 20
 #[Value.int
 IntKind.u8
 1]
 w'
 fun
 (e :
 Ending)
 (w' :
 World) =>
 ∃
 (f_11
 :
 Nat →
 Int),
 e =
 Ending.returned
 (Value.agg
 (arrI IntKind.u8 f_11 16 0).toArray) ∧
 S
 w' ∧
 ∃
 (r
 :
 Bool),
 EqP
 Tryz.prog
 45
 (Value.agg
 (arrI IntKind.u8 f 16 0).toArray)
 (Value.agg
 (arrI IntKind.u8 f_11 16 0).toArray)
 r ∧
 ∃
 (x
 :
 Int),
 gimp
 (true &&
 r)
 (∀
 (w' :
 World),
 S
 w' →
 w'.cell?
 (Addr.mk
 n_6
 (0 +
 52)
 none) =
 some
 (Value.int
 IntKind.i64
 x)) ∧
 ∃
 (x_42
 :
 ByteArray),
 gimp
 (true &&
 r &&
 x ==
 101)
 (∀
 (w' :
 World),
 S
 w' →
 w'.cell?
 (Addr.mk
 n_6
 (0 +
 53)
 none) =
 some
 (Value.string
 x_42)) ∧
 KeptL
 [n_6,
 n_1,
 n]
 W
 w' ∧
 R
 (Ending.returned
 (Value.bool
 (true &&
 r &&
 x ==
 101 &&
 x_42.toList ==
 [])))
 w')
 (S
 w' ∧
 ∃
 (x
 :
 Int),
 True ∧
 ∃
 (x_42
 :
 ByteArray),
 True ∧
 KeptL
 [n_6,
 n_1,
 n]
 W
 w' ∧
 R
 (Ending.returned
 (Value.bool
 (false &&
 x ==
 101 &&
 x_42.toList ==
 [])))
 w'))
 (S
 w' ∧
 S
 w' ∧
 ∃
 (x
 :
 Int),
 True ∧
 ∃
 (f
 :
 Nat →
 Int),
 True ∧
 S
 w' ∧
 ∃
 (x
 :
 Int),
 True ∧
 ∃
 (x_41
 :
 ByteArray),
 True ∧
 KeptL
 [n_6,
 n_1,
 n]
 W
 w' ∧
 R
 (Ending.returned
 (Value.bool
 (false &&
 x ==
 101 &&
 x_41.toList ==
 [])))
 w'))
 (S
 W ∧
 S
 W ∧
 ∃
 (f
 :
 Nat →
 Int),
 True ∧
 S
 W ∧
 S
 W ∧
 ∃
 (x
 :
 Int),
 True ∧
 ∃
 (f
 :
 Nat →
 Int),
 True ∧
 S
 W ∧
 ∃
 (x
 :
 Int),
 True ∧
 ∃
 (x_33
 :
 ByteArray),
 True ∧
 KeptL
 [n_6,
 n_1,
 n]
 W
 W ∧
 R
 (Ending.returned
 (Value.bool
 (false &&
 x ==
 101 &&
 x_33.toList ==
 [])))
 W)) ∧
 ∀ (n_4 : Nat) (w1 : World),
 NewB W
 (Obj.cells
 #[Value.int IntKind.i64 0, Value.int IntKind.u8 0,
 Value.int IntKind.u8 0, Value.int IntKind.u8 0,
 Value.int IntKind.u8 0, Value.int IntKind.u8 0,
 Value.int IntKind.u8 0, Value.int IntKind.u8 0,
 Value.int IntKind.u8 0, Value.int IntKind.u8 0,
 Value.int IntKind.u8 0, Value.int IntKind.u8 0,
 Value.int IntKind.u8 0, Value.int IntKind.u8 0,
 Value.int IntKind.u8 0, Value.int IntKind.u8 0,
 Value.int IntKind.u8 0, Value.int IntKind.u8 0,
 Value.int IntKind.u8 0, Value.int IntKind.u8 0,
 Value.int IntKind.u8 0, Value.int IntKind.u8 0,
 Value.int IntKind.u8 0, Value.int IntKind.u8 0,
 Value.int IntKind.u8 0, Value.int IntKind.u8 0,
 Value.int IntKind.u8 0, Value.int IntKind.u8 0,
 Value.int IntKind.u8 0, Value.int IntKind.u8 0,
 Value.int IntKind.u8 0, Value.int IntKind.u8 0,
 Value.int IntKind.u8 0,
 Value.string (ByteArray.mk #[]),
 Value.int IntKind.i64 0, Value.bool false,
 Value.slice none 0 0,
 Value.string (ByteArray.mk #[]),
 Value.int IntKind.i64 0, Value.int IntKind.i64 0,
 Value.int IntKind.u8 0, Value.int IntKind.u8 0,
 Value.int IntKind.u8 0, Value.int IntKind.u8 0,
 Value.int IntKind.u8 0, Value.int IntKind.u8 0,
 Value.int IntKind.u8 0, Value.int IntKind.u8 0,
 Value.int IntKind.u8 0, Value.int IntKind.u8 0,
 Value.int IntKind.u8 0, Value.int IntKind.u8 0,
 Value.int IntKind.u8 0, Value.int IntKind.u8 0,
 Value.int IntKind.u8 0, Value.int IntKind.u8 0]
 42)
 n_4 w1 →
 S w1 ∧
 CallsS Tryz.prog 20 #[Value.int IntKind.u8 2] w1
 fun (e : Ending) (w' : World) =>
 ∃ (f_3 : Nat → Int),
 e =
 Ending.returned
 (Value.agg
 (arrI IntKind.u8 f_3 16 0).toArray) ∧
 S w' ∧
 CallsS Tryz.prog 19
 #[Value.pointer x,
 Value.agg
 (arrI IntKind.u8 f 32 0).toArray,
 Value.string (ByteArray.mk #[103]),
 Value.agg
 (arrI IntKind.u8 f_3 16 0).toArray,
 Value.int IntKind.i64 102]
 w' fun (e : Ending) (w' : World) =>
 ∃ (x_11 : Int),
 ∃ (f : Nat → Int),
 ∃ (x_12 : ByteArray),
 ∃ (x_13 : Int),
 ∃ (x_14 : Bool),
 ∃ (p : Option Addr),
 ∃ (n_5 : Nat),
 ∃ (c : Nat),
 ∃ (x_15 : ByteArray),
 ∃ (x_16 : Int),
 ∃ (x_17 : Int),
 ∃ (f_4 : Nat → Int),
 ∃ (x_18 : Int),
 e =
 Ending.returned
 (Value.tuple
 #[Value.agg
 ([Value.int IntKind.i64 x_11] ++ arrI IntKind.u8 f 32 0 ++ ([Value.string x_12,
 Value.int IntKind.i64 x_13,
 Value.bool x_14,
 Value.slice p n_5 c,
 Value.string x_15,
 Value.int IntKind.i64 x_16,
 Value.int IntKind.i64 x_17] ++ arrI IntKind.u8 f_4 16 0)).toArray,
 Value.int IntKind.i64 x_18]) ∧
 WrL w' n_4 0 56 ∧
 ∀ (w1 : World),
 PutB w' n_4 0
 ([Value.int IntKind.i64 x_11] ++ arrI IntKind.u8 f 32 0 ++ ([Value.string x_12,
 Value.int IntKind.i64 x_13,
 Value.bool x_14,
 Value.slice p n_5 c,
 Value.string x_15,
 Value.int IntKind.i64 x_16,
 Value.int IntKind.i64 x_17] ++ arrI IntKind.u8 f_4 16 0))
 w1 →
 KeptL [n_1, n] W w1 ∧
 CallsS Tryz.prog 21
 #[Value.pointer x,
 Value.agg
 (arrI IntKind.u8 i 32 0).toArray,
 Value.string
 (ByteArray.mk #[103])]
 w1
 fun (e : Ending)
 (w' : World) =>
 ∃ (f : Nat → Int),
 ∃ (x_19 : ByteArray),
 ∃ (x_20 : ByteArray),
 ∃ (x_21 : Int),
 ∃ (x_22 : Int),
 ∃ (f_5 : Nat → Int),
 ∃ (x_23 : Int),
 ∃ (x_24 : ByteArray),
 ∃ (x_25 : Bool),
 e =
 Ending.returned
 (Value.tuple
 #[Value.agg
 (arrI IntKind.u8 f 32 0 ++ ([Value.string
 x_19,
 Value.string
 x_20,
 Value.int
 IntKind.i64
 x_21,
 Value.int
 IntKind.i64
 x_22] ++ arrI IntKind.u8 f_5 16 0 ++ [Value.int
 IntKind.i64
 x_23,
 Value.string
 x_24])).toArray,
 Value.bool
 x_25]) ∧
 KeptL [n_1, n] w1
 w' ∧
 ∀ (n_6 : Nat)
 (W : World),
 Loc w.heap.size
 [Blk.mk n_6 48
 (arrI IntKind.u8 f 32 0 ++ ([Value.string
 x_19,
 Value.string
 x_20,
 Value.int
 IntKind.i64
 x_21,
 Value.int
 IntKind.i64
 x_22] ++ arrI IntKind.u8 f_5 16 0 ++ [Value.int
 IntKind.i64
 x_23,
 Value.string
 x_24]))
 (wrM 2),
 Blk.mk n_1 33
 [Value.string
 t,
 Value.string
 s]
 0,
 Blk.mk n 32
 (arrI IntKind.u8 i 32 0)
 0]
 w' W →
 ∃ (S :
 World → Prop),
 S W ∧
 ∃ (x_26 : Int),
 ∃ (f :
 Nat → Int),
 ∃ (x_27 :
 ByteArray),
 ∃ (x_28 :
 Int),
 ∃ (x_29 :
 Bool),
 ∃ (p :
 Option
 Addr),
 ∃ (n_7 :
 Nat),
 ∃ (c :
 Nat),
 ∃ (x_30
 :
 ByteArray),
 ∃
 (x_31
 :
 Int),
 ∃
 (x_32
 :
 Int),
 ∃
 (f_6
 :
 Nat →
 Int),
 gimp
 (x_10 ==
 0)
 (∀
 (w' :
 World),
 S
 w' →
 AtL
 w'
 n_2
 0
 ([Value.int
 IntKind.i64
 x_26] ++ arrI IntKind.u8 f 32 0 ++ ([Value.string
 x_27,
 Value.int
 IntKind.i64
 x_28,
 Value.bool
 x_29,
 Value.slice
 p
 n_7
 c,
 Value.string
 x_30,
 Value.int
 IntKind.i64
 x_31,
 Value.int
 IntKind.i64
 x_32] ++ arrI IntKind.u8 f_6 16 0))) ∧
 ∃
 (f_7
 :
 Nat →
 Int),
 gimp
 (x_10 ==
 0)
 (∀
 (w' :
 World),
 S
 w' →
 AtL
 w'
 n
 0
 (arrI IntKind.u8 f_7 32 0)) ∧
 bsp
 (x_10 ==
 0)
 (CallsS
 Tryz.prog
 23
 #[Value.agg
 (arrI IntKind.u8 f_7 32 0).toArray,
 Value.string
 (ByteArray.mk
 #[103]),
 Value.int
 IntKind.i64
 x_10]
 W
 fun
 (e :
 Ending)
 (w' :
 World) =>
 ∃
 (x_33
 :
 Int),
 ∃
 (f_8
 :
 Nat →
 Int),
 ∃
 (x_34
 :
 ByteArray),
 ∃
 (x_35
 :
 Int),
 ∃
 (x_36
 :
 Bool),
 ∃
 (p_1
 :
 Option
 Addr),
 ∃
 (n_8
 :
 Nat),
 ∃
 (c_1
 :
 Nat),
 ∃
 (x_37
 :
 ByteArray),
 ∃
 (x_38
 :
 Int),
 ∃
 (x_39
 :
 Int),
 ∃
 (f_9
 :
 Nat →
 Int),
 e =
 Ending.returned
 (Value.agg
 ([Value.int
 IntKind.i64
 x_33] ++ arrI IntKind.u8 f_8 32 0 ++ ([Value.string
 x_34,
 Value.int
 IntKind.i64
 x_35,
 Value.bool
 x_36,
 Value.slice
 p_1
 n_8
 c_1,
 Value.string
 x_37,
 Value.int
 IntKind.i64
 x_38,
 Value.int
 IntKind.i64
 x_39] ++ arrI IntKind.u8 f_9 16 0)).toArray) ∧
 S
 w' ∧
 CallsS
 Tryz.prog
 22
 #[Value.agg
 ([Value.int
 IntKind.i64
 x_26] ++ arrI IntKind.u8 f 32 0 ++ ([Value.string
 x_27,
 Value.int
 IntKind.i64
 x_28,
 Value.bool
 x_29,
 Value.slice
 p
 n_7
 c,
 Value.string
 x_30,
 Value.int
 IntKind.i64
 x_31,
 Value.int
 IntKind.i64
 x_32] ++ arrI IntKind.u8 f_6 16 0)).toArray,
 Value.agg
 ([Value.int
 IntKind.i64
 x_33] ++ arrI IntKind.u8 f_8 32 0 ++ ([Value.string
 x_34,
 Value.int
 IntKind.i64
 x_35,
 Value.bool
 x_36,
 Value.slice
 p_1
 n_8
 c_1,
 Value.string
 x_37,
 Value.int
 IntKind.i64
 x_38,
 Value.int
 IntKind.i64
 x_39] ++ arrI IntKind.u8 f_9 16 0)).toArray]
 w'
 fun
 (e :
 Ending)
 (w' :
 World) =>
 ∃
 (x_40
 :
 Bool),
 e =
 Ending.returned
 (Value.bool
 x_40) ∧
 S
 w' ∧
 ∃
 (f
 :
 Nat →
 Int),
 gimp
 (true &&
 x_40 &&
 x_18 ==
 10)
 (∀
 (w' :
 World),
 S
 w' →
 AtL
 w'
 n
 0
 (arrI IntKind.u8 f 32 0)) ∧
 bsp
 (true &&
 x_40 &&
 x_18 ==
 10)
 (CallsS
 Tryz.prog
 20
 #[Value.int
 IntKind.u8
 1]
 w'
 fun
 (e :
 Ending)
 (w' :
 World) =>
 ∃
 (f_10
 :
 Nat →
 Int),
 e =
 Ending.returned
 (Value.agg
 (arrI IntKind.u8 f_10 16 0).toArray) ∧
 S
 w' ∧
 CallsS
 Tryz.prog
 24
 #[Value.pointer
 x,
 Value.agg
 (arrI IntKind.u8 f 32 0).toArray,
 Value.string
 (ByteArray.mk
 #[103]),
 Value.agg
 (arrI IntKind.u8 f_10 16 0).toArray,
 Value.string
 (ByteArray.mk
 #[]),
 Value.int
 IntKind.i64
 103]
 w'
 fun
 (e :
 Ending)
 (w' :
 World) =>
 ∃
 (x
 :
 Int),
 e =
 Ending.returned
 (Value.int
 IntKind.i64
 x) ∧
 S
 w' ∧
 ∃
 (x_41
 :
 Int),
 gimp
 (true &&
 x ==
 10 &&
 x_25)
 (∀
 (w' :
 World),
 S
 w' →
 w'.cell?
 (Addr.mk
 n_6
 (0 +
 35)
 none) =
 some
 (Value.int
 IntKind.i64
 x_41)) ∧
 ∃
 (f
 :
 Nat →
 Int),
 gimp
 (true &&
 x ==
 10 &&
 x_25 &&
 x_41 ==
 1)
 (∀
 (w' :
 World),
 S
 w' →
 AtL
 w'
 n_6
 (0 +
 36)
 (arrI IntKind.u8 f 16 0)) ∧
 bsp
 (true &&
 x ==
 10 &&
 x_25 &&
 x_41 ==
 1)
 (CallsS
 Tryz.prog
 20
 #[Value.int
 IntKind.u8
 1]
 w'
 fun
 (e :
 Ending)
 (w' :
 World) =>
 ∃
 (f_11
 :
 Nat →
 Int),
 e =
 Ending.returned
 (Value.agg
 (arrI IntKind.u8 f_11 16 0).toArray) ∧
 S
 w' ∧
 ∃
 (r
 :
 Bool),
 EqP
 Tryz.prog
 45
 (Value.agg
 (arrI IntKind.u8 f 16 0).toArray)
 (Value.agg
 (arrI IntKind.u8 f_11 16 0).toArray)
 r ∧
 ∃
 (x
 :
 Int),
 gimp
 (true &&
 r)
 (∀
 (w' :
 World),
 S
 w' →
 w'.cell?
 (Addr.mk
 n_6
 (0 +
 52)
 none) =
 some
 (Value.int
 IntKind.i64
 x)) ∧
 ∃
 (x_42
 :
 ByteArray),
 gimp
 (true &&
 r &&
 x ==
 101)
 (∀
 (w' :
 World),
 S
 w' →
 w'.cell?
 (Addr.mk
 n_6
 (0 +
 53)
 none) =
 some
 (Value.string
 x_42)) ∧
 KeptL
 [n_6,
 n_1,
 n]
 W
 w' ∧
 R
 (Ending.returned
 (Value.bool
 (true &&
 r &&
 x ==
 101 &&
 x_42.toList ==
 [])))
 w')
 (S
 w' ∧
 ∃
 (x
 :
 Int),
 True ∧
 ∃
 (x_42
 :
 ByteArray),
 True ∧
 KeptL
 [n_6,
 n_1,
 n]
 W
 w' ∧
 R
 (Ending.returned
 (Value.bool
 (false &&
 x ==
 101 &&
 x_42.toList ==
 [])))
 w'))
 (S
 w' ∧
 S
 w' ∧
 ∃
 (x
 :
 Int),
 True ∧
 ∃
 (f
 :
 Nat →
 Int),
 True ∧
 S
 w' ∧
 ∃
 (x
 :
 Int),
 True ∧
 ∃
 (x_41
 :
 ByteArray),
 True ∧
 KeptL
 [n_6,
 n_1,
 n]
 W
 w' ∧
 R
 (Ending.returned
 (Value.bool
 (false &&
 x ==
 101 &&
 x_41.toList ==
 [])))
 w'))
 (S
 W ∧
 S
 W ∧
 ∃
 (f
 :
 Nat →
 Int),
 True ∧
 S
 W ∧
 S
 W ∧
 ∃
 (x
 :
 Int),
 True ∧
 ∃
 (f
 :
 Nat →
 Int),
 True ∧
 S
 W ∧
 ∃
 (x
 :
 Int),
 True ∧
 ∃
 (x_33
 :
 ByteArray),
 True ∧
 KeptL
 [n_6,
 n_1,
 n]
 W
 W ∧
 R
 (Ending.returned
 (Value.bool
 (false &&
 x ==
 101 &&
 x_33.toList ==
 [])))
 W))
 (∀ (n_2 : Nat) (W : World),
 Loc w.heap.size
 [Blk.mk n_2 57
 [Value.int IntKind.i64 3, Value.int IntKind.i64 2, Value.slice none 0 0,
 Value.slice none 0 0]
 2,
 Blk.mk n_1 33 [Value.string t, Value.string s] 0,
 Blk.mk n 32
 (arrI IntKind.u8 i 32 0)
 0]
 w' W →
 CallsS Tryz.prog 20 #[Value.int IntKind.u8 1] W fun (e : Ending) (w' : World) =>
 ∃ (f : Nat → Int),
 e =
 Ending.returned
 (Value.agg
 (arrI IntKind.u8 f 16 0).toArray) ∧
 KeptL [n_2, n_1, n] W w' ∧
 ∀ (n_3 : Nat) (W : World),
 Loc w.heap.size
 [Blk.mk n_3 45
 (arrI IntKind.u8 f 16 0)
 2,
 Blk.mk n_2 57
 [Value.int IntKind.i64 3, Value.int IntKind.i64 2, Value.slice none 0 0,
 Value.slice none 0 0]
 0,
 Blk.mk n_1 33 [Value.string t, Value.string s] 0,
 Blk.mk n 32
 (arrI IntKind.u8 i 32 0)
 0]
 w' W →
 CallsS Tryz.prog 25
 #[Value.pointer (some (Addr.mk n_2 0 none)), Value.string (ByteArray.mk #[103]),
 Value.slice (some (Addr.mk n_3 0 none)) 1 1]
 W fun (e : Ending) (w' : World) =>
 ∃ (x_3 : Int),
 e = Ending.returned (Value.int IntKind.i64 x_3) ∧
 KeptL [n_1, n] W w' ∧
 CallsS Tryz.prog 26
 #[Value.pointer (some (Addr.mk n_2 0 none)),
 Value.agg
 (arrI IntKind.u8 i 32 0).toArray,
 Value.string (ByteArray.mk #[103]), Value.string (ByteArray.mk #[]),
 Value.int IntKind.i64 100]
 w' fun (e : Ending) (w'_1 : World) =>
 ∃ (x_4 : Int),
 e = Ending.returned (Value.int IntKind.i64 x_4) ∧
 KeptL [n_1, n] w' w'_1 ∧
 ∀ (W : World),
 Loc w.heap.size
 [Blk.mk n_1 33 [Value.string t, Value.string s] 0,
 Blk.mk n 32
 (arrI IntKind.u8 i 32 0)
 0]
 w'_1 W →
 ∃ (S : World → Prop),
 S W ∧
 ∃ (f : Nat → Int),
 (∀ (w' : World),
 S w' →
 AtL w' n 0
 (arrI IntKind.u8 f 32 0)) ∧
 CallsS Tryz.prog 20 #[Value.int IntKind.u8 1] W
 fun (e : Ending) (w' : World) =>
 ∃ (f_1 : Nat → Int),
 e =
 Ending.returned
 (Value.agg
 (arrI IntKind.u8 f_1 16 0).toArray) ∧
 S w' ∧
 CallsS Tryz.prog 27
 #[Value.pointer (some (Addr.mk n_2 0 none)),
 Value.agg
 (arrI IntKind.u8 f 32 0).toArray,
 Value.string (ByteArray.mk #[103]),
 Value.agg
 (arrI IntKind.u8 f_1 16 0).toArray,
 Value.int IntKind.i64 2,
 Value.string
 (s.extract 0
 (if 250 < (↑s.size : Int) then 250 else (↑s.size : Int)).toNat),
 Value.int IntKind.i64 101]
 w' fun (e : Ending) (w' : World) =>
 ∃ (x_5 : Int),
 e = Ending.returned (Value.int IntKind.i64 x_5) ∧
 KeptL [n_1, n] W w' ∧
 ∀ (W : World),
 Loc w.heap.size
 [Blk.mk n_1 33 [Value.string t, Value.string s] 0,
 Blk.mk n 32
 (arrI IntKind.u8 i 32 0)
 0]
 w' W →
 ∃ (S : World → Prop),
 S W ∧
 ∃ (f : Nat → Int),
 (∀ (w' : World),
 S w' →
 AtL w' n 0
 (arrI IntKind.u8 f 32 0)) ∧
 CallsS Tryz.prog 20 #[Value.int IntKind.u8 1] W
 fun (e : Ending) (w' : World) =>
 ∃ (f_2 : Nat → Int),
 e =
 Ending.returned
 (Value.agg
 (arrI IntKind.u8 f_2 16 0).toArray) ∧
 S w' ∧
 CallsS Tryz.prog 24
 #[Value.pointer x,
 Value.agg
 (arrI IntKind.u8 f 32 0).toArray,
 Value.string (ByteArray.mk #[103]),
 Value.agg
 (arrI IntKind.u8 f_2 16 0).toArray,
 Value.string
 (s.extract 0
 (if 250 < (↑s.size : Int) then 250
 else (↑s.size : Int)).toNat),
 Value.int IntKind.i64 101]
 w' fun (e : Ending) (w' : World) =>
 ∃ (x_6 : Int),
 e = Ending.returned (Value.int IntKind.i64 x_6) ∧
 KeptL [n_1, n] W w' ∧
 CallsS Tryz.prog 21
 #[Value.pointer x,
 Value.agg
 (arrI IntKind.u8 i 32 0).toArray,
 Value.string (ByteArray.mk #[103])]
 w' fun (e : Ending) (w'_2 : World) =>
 ∃ (f : Nat → Int),
 ∃ (x : ByteArray),
 ∃ (x_7 : ByteArray),
 ∃ (x_8 : Int),
 ∃ (x_9 : Int),
 ∃ (f_3 : Nat → Int),
 ∃ (x_10 : Int),
 ∃ (x_11 : ByteArray),
 ∃ (x_12 : Bool),
 e =
 Ending.returned
 (Value.tuple
 #[Value.agg
 (arrI IntKind.u8 f 32 0 ++ ([Value.string x, Value.string x_7,
 Value.int IntKind.i64 x_8,
 Value.int IntKind.i64 x_9] ++ arrI IntKind.u8 f_3 16 0 ++ [Value.int IntKind.i64 x_10,
 Value.string x_11])).toArray,
 Value.bool x_12]) ∧
 KeptL [n_1, n] w' w'_2 ∧
 ∀ (n_4 : Nat) (W : World),
 Loc w.heap.size
 [Blk.mk n_4 48
 (arrI IntKind.u8 f 32 0 ++ ([Value.string x, Value.string x_7,
 Value.int IntKind.i64 x_8,
 Value.int IntKind.i64 x_9] ++ arrI IntKind.u8 f_3 16 0 ++ [Value.int IntKind.i64 x_10,
 Value.string x_11]))
 (wrM 2),
 Blk.mk n_1 33
 [Value.string t, Value.string s] 0,
 Blk.mk n 32
 (arrI IntKind.u8 i 32 0)
 0]
 w'_2 W →
 ∃ (S : World → Prop),
 S W ∧
 ∃ (x : Int),
 gimp
 (x_6 == x_5 && x_12 && x_6 == 0)
 (∀ (w' : World),
 S w' →
 w'.cell?
 (Addr.mk n_4 (0 + 35) none) =
 some
 (Value.int IntKind.i64 x)) ∧
 ∃ (x_13 : ByteArray),
 gimp
 (x_6 == x_5 && x_12 &&
 (x_6 == 0 && x == 2))
 (∀ (w' : World),
 S w' →
 w'.cell?
 (Addr.mk n_4 (0 + 53)
 none) =
 some (Value.string x_13)) ∧
 ∃ (f : Nat → Int),
 gimp
 (x_6 == x_5 && x_12 &&
 (x_6 == 0 && x == 2 &&
 x_13.toList ==
 (s.extract 0
 (if
 250 <
 (↑s.size : Int) then
 250
 else
 (↑s.size :
 Int)).toNat).toList))
 (∀ (w' : World),
 S w' →
 AtL w' n_4 (0 + 36)
 (arrI IntKind.u8 f 16 0)) ∧
 bsp (x_6 == x_5 && x_12)
 (bsp
 (x_6 == 0 && x == 2 &&
 x_13.toList ==
 (s.extract 0
 (if
 250 <
 (↑s.size : Int) then
 250
 else
 (↑s.size :
 Int)).toNat).toList)
 (CallsS Tryz.prog 20
 #[Value.int IntKind.u8 1] W
 fun (e : Ending)
 (w' : World) =>
 ∃ (f_4 : Nat → Int),
 e =
 Ending.returned
 (Value.agg
 (arrI IntKind.u8 f_4 16 0).toArray) ∧
 S w' ∧
 ∃ (r : Bool),
 EqP Tryz.prog 45
 (Value.agg
 (arrI IntKind.u8 f 16 0).toArray)
 (Value.agg
 (arrI IntKind.u8 f_4 16 0).toArray)
 r ∧
 ∃ (x : Int),
 gimp
 (true &&
 !(true && r) &&
 x_6 != 0)
 (∀ (w' : World),
 S w' →
 w'.cell?
 (Addr.mk n_4
 (0 + 35)
 none) =
 some
 (Value.int
 IntKind.i64
 x)) ∧
 KeptL [n_4, n_1, n] W
 w' ∧
 R
 (Ending.returned
 (Value.bool
 (true &&
 (true && r ||
 x_6 != 0 &&
 x == 0))))
 w')
 (S W ∧
 ∃ (x : Int),
 gimp
 (true && !false &&
 x_6 != 0)
 (∀ (w' : World),
 S w' →
 w'.cell?
 (Addr.mk n_4 (0 + 35)
 none) =
 some
 (Value.int
 IntKind.i64 x)) ∧
 KeptL [n_4, n_1, n] W W ∧
 R
 (Ending.returned
 (Value.bool
 (true &&
 (false ||
 x_6 != 0 &&
 x == 0))))
 W))
 (S W ∧
 KeptL [n_4, n_1, n] W W ∧
 R
 (Ending.returned
 (Value.bool false))
 W)))
theorem vc_lcmds (i : Nat → Int) (t : ByteArray) (s : ByteArray) (fi : Bool) (w : World) (R : Ending → World → Prop) (h : VC_lcmds i t s fi w R) : Calls Tryz.prog 4 ([Value.agg
    (arrI IntKind.u8 i 32 0).toArray,
  Value.agg #[Value.string t, Value.string s], Value.bool fi] : List Value).toArray w R := by
  have e : execR2 { P := Tryz.prog, loops := [], pur := pur1, tails := [(5, 7), (8, 2), (9, 2), (11, 6), (15, 2), (16, 2), (18, 23)], joins := [], boxes := [] } Tryz.f4.results.toList R (Tryz.f4.body.getD .skip) (initF [Value.agg
    (arrI IntKind.u8 i 32 0).toArray,
  Value.agg #[Value.string t, Value.string s],
  Value.bool
    fi] (Tryz.f4.ntmps - ([Value.agg (arrI IntKind.u8 i 32 0).toArray, Value.agg #[Value.string t, Value.string s],
  Value.bool fi] : List Value).length)) w = VC_lcmds i t s fi w R := by kernel_rfl
  have hb : Tryz.f4.body = some (Tryz.f4.body.getD .skip) := by kernel_rfl
  exact calls_of_exec2' (P := Tryz.prog) (fn := Tryz.f4) (c := Tryz.f4.body.getD .skip) (args := [Value.agg
    (arrI IntKind.u8 i 32 0).toArray,
  Value.agg #[Value.string t, Value.string s], Value.bool fi]) (w := w) (R := R) pur1_ok Tryz.func4 hb e h

end Go.Proofs.YtfacflbmlfbeeaaGreatDoor

/- Chapter 39: the contract of ModerationCommands. Bytes are bytes; texts are not too long; the library's variable MaxLen holds a number. -/
namespace Go.Proofs.YtfacflbmlfbeeaaGreatDoor
open Go.RowKit Go.Sort Go.Maps

/-! ### Commands are compared -/
set_option maxRecDepth 100000 in
theorem pubEq : EqP Tryz.prog 40 (.agg (([.int .i64 0] : List Value) ++ arrI .u8 (fun _ => 0) 16 0).toArray) (.agg (([.int .i64 0] : List Value) ++ arrI .u8 (fun _ => 0) 16 0).toArray) true := ⟨fun w => by kernel_rfl, by kernel_rfl, _, _, rfl, rfl⟩
set_option maxRecDepth 100000 in
set_option maxHeartbeats 4000000 in
theorem ceq_any (k : Int) (f : Nat → Int) (hf : BY f) (g : ByteArray) (w : World) : Calls Tryz.prog 22 #[.agg (apC k f g).toArray, .agg (apC k f g).toArray] w fun e w' => e = .returned (.bool true) ∧ K0 w w' := by
  refine vc_ceq k f g w _ (fun n n1 => ?_)
  refine ⟨f, gimp_intro fun _ W hW => AtL_block (hW.cells 1 rfl) rfl, f, gimp_intro fun _ W hW => AtL_block (hW.cells 0 rfl) rfl, _, gimp_intro fun _ => idEqF hf hf, g, gimp_intro fun _ W hW => cell_at (hW.cells 1 rfl) rfl, g, gimp_intro fun _ W hW => cell_at (hW.cells 0 rfl) rfl, 0, gimp_intro fun _ W hW => cell_at (hW.cells 1 rfl) rfl, 0, gimp_intro fun _ W hW => cell_at (hW.cells 0 rfl) rfl, false, gimp_intro fun _ W hW => cell_at (hW.cells 1 rfl) rfl, false, gimp_intro fun _ W hW => cell_at (hW.cells 0 rfl) rfl, none, 0, 0, gimp_intro fun _ W hW => cell_at (hW.cells 1 rfl) rfl, none, 0, 0, gimp_intro fun _ W hW => cell_at (hW.cells 0 rfl) rfl, fun W hW => bsp_intro (fun _ => ?_) (fun h => by simp at h)⟩
  have kW : K0 w W := hW.kk rfl
  have c0 := hW.cells 0 rfl
  have c1 := hW.cells 1 rfl
  clear hW
  refine ⟨(aequal_any [] [] none 0 none 0 W RowA.nil RowA.nil (fun m h => by cases h) (fun m h => by cases h) (by decide)).mono fun e w1 ⟨he, k1⟩ => ⟨_, he, .of_k0 k1, ?_⟩⟩
  have d0 := k1.blk c0 (fun h => h)
  have d1 := k1.blk c1 (fun h => h)
  refine ⟨⟨#[]⟩, gimp_intro fun _ => cell_at d1 rfl, ⟨#[]⟩, gimp_intro fun _ => cell_at d0 rfl, 0, gimp_intro fun _ => cell_at d1 rfl, 0, gimp_intro fun _ => cell_at d0 rfl, 0, fun _ => 0, gimp_intro fun _ => AtL_block d1 rfl, 0, fun _ => 0, gimp_intro fun _ => AtL_block d0 rfl, true, gimp_intro fun _ => pubEq, ?_, kW.trans k1⟩
  simp

/-! ### What stands in the queue -/
theorem prt_nil : prtB ⟨#[]⟩ = true := by
  have h := (rn_spec ⟨#[]⟩).1
  obtain ⟨e1, e2⟩ := RN.det h (.done (by decide))
  unfold prtB
  rw [e1, e2]; rfl
structure Q1 (q : Qu) (k : Ky) (e : En) : Prop where
  ok : q.OK
  ln : q.es.length ≤ 10000
  en : aget q.es k = some e
  md : ∀ c, c = 1 ∨ c = 2 → isMB (q.md kG) (auN c) = true
theorem mb3 {X : MX} (h : X.l = [auN 0, auN 1, auN 2]) (c : Int) (hc : c = 1 ∨ c = 2) : isMB X (auN c) = true := by
  unfold isMB
  rw [h, decide_eq_true_eq]
  rcases hc with rfl | rfl <;> decide +kernel
theorem aset_len {α β : Type} [DecidableEq α] {l : List (α × β)} (hd : l.Pairwise fun p q => p.1 ≠ q.1) {a : α} {u v : β} (h : aget l a = some u) : (aset l a v).length = l.length := by
  obtain ⟨j, hj⟩ := List.getElem?_of_mem (aget_mem h)
  rw [aset_old hd hj, List.length_set]
theorem q1_sub {q : Qu} {M : Mo} (r : Rq 2 q M) (h0 : M0 3 2 M) {f : Nat → Int} (hf : BY f ∧ NZ 32 f) {tx : ByteArray} (ht : tx.size ≤ 300) : Q1 (subQ q f kG tx 100) (idI f, kG) (newE f kG tx 100) := by
  have hes : q.es = [] := by
    have := r.perm
    rw [h0.es] at this
    exact List.perm_nil.1 this
  have hmd : (q.md kG).l = [auN 0, auN 1, auN 2] := by rw [r.ms, h0.md]
  have hwt : q.wt = 0 := by rw [r.qo.wt, hes]; rfl
  have hroom : q.room = 3 := by rw [← r.room, h0.room]
  have hE : subE q f kG tx 100 = 0 := by
    unfold subE
    rw [if_neg (by decide), if_neg (by rw [k_gn]; decide), if_neg (by omega), hmd, if_neg (by decide), hes, if_neg (by show ¬ (none : Option En).isSome = true; decide), hwt, hroom, if_neg (by decide)]
  refine ⟨r.qo.sub hf, ?_, ?_, fun c hc => ?_⟩
  · unfold subQ
    rw [if_pos hE, hes]
    show (aset [] _ _).length ≤ _
    unfold aset; simp
  · unfold subQ
    rw [if_pos hE]
    show aget (aset q.es _ _) _ = _
    rw [aget_aset, if_pos rfl]
  · have e : (subQ q f kG tx 100).md kG = q.md kG := by unfold Qu.md; rw [subQ_ms]
    rw [e]
    exact mb3 hmd c hc
theorem q1_dec0 {q : Qu} {f : Nat → Int} {tx : ByteArray} (h : Q1 q (idI f, kG) (newE f kG tx 100)) : decE q f kG (auN 1) 101 = 0 := by
  unfold decE
  rw [if_neg (by rw [h.md 1 (.inl rfl)]; decide), if_neg (by rw [h.en]; exact fun h => by cases h), en_some h.en, if_neg (by show ¬ (0 : Int) ≠ 0; decide), if_neg (by unfold blk inE newE; simp)]
theorem q1_fin {q : Qu} {f : Nat → Int} {tx : ByteArray} (hd : q.es.Pairwise fun p r => p.1 ≠ r.1) (h : Q1 q (idI f, kG) (newE f kG tx 100)) {st : Int} (hst : 1 ≤ st ∧ st ≤ 3) {rs : ByteArray} (hr : rs.size ≤ 200) : Q1 (decQ q f kG (auN 1) 101 st rs) (idI f, kG) (plainE (finS39 (newE f kG tx 100).s (auN 1) 101 st rs)) := by
  have e : decQ q f kG (auN 1) 101 st rs = finQ q (finS39 (newE f kG tx 100).s (auN 1) 101 st rs) := by
    unfold decQ
    rw [if_pos (q1_dec0 h), en_some h.en]
  refine ⟨h.ok.dec (auN_ok (by decide)) ⟨by decide, by decide⟩ hst hr, ?_, ?_, fun c hc => ?_⟩
  · rw [e]
    show (aset q.es (idI f, kG) _).length ≤ _
    rw [aset_len hd h.en]
    exact h.ln
  · rw [e]
    show aget (aset q.es (idI f, kG) _) _ = _
    rw [aget_aset, if_pos rfl]
  · have : (decQ q f kG (auN 1) 101 st rs).md kG = q.md kG := by unfold Qu.md; rw [decQ_ms]
    rw [this]
    exact h.md c hc
theorem q1_again {q : Qu} {f : Nat → Int} {e : En} (h : Q1 q (idI f, kG) e) (he : e.s.st ≠ 0) (c : Int) (hc : c = 1 ∨ c = 2) (now st : Int) (rs : ByteArray) : decE q f kG (auN c) now = 10 ∧ decQ q f kG (auN c) now st rs = q := by
  have e1 : decE q f kG (auN c) now = 10 := by
    unfold decE
    rw [if_neg (by rw [h.md c hc]; decide), if_neg (by rw [h.en]; exact fun h => by cases h), en_some h.en, if_pos he]
  refine ⟨e1, ?_⟩
  unfold decQ
  rw [if_neg (by rw [e1]; decide)]

end Go.Proofs.YtfacflbmlfbeeaaGreatDoor

/- Chapter 39: the contract of ModerationCommands. Bytes are bytes; texts are not too long; the library's variable MaxLen holds a number. -/
namespace Go.Proofs.YtfacflbmlfbeeaaGreatDoor
open Go.RowKit Go.Sort Go.Maps

theorem apE_of {q : Qu} {id : Nat → Int} {g : ByteArray} {a : Nat → Int} {now : Int} (h : minB now = true) : apE q id g a now = decE q id g a now := by unfold apE; rw [if_neg (by rw [h]; decide)]
theorem apQ_of {q : Qu} {id : Nat → Int} {g : ByteArray} {a : Nat → Int} {now st : Int} {rs : ByteArray} (h : minB now = true) : apQ q id g a now st rs = decQ q id g a now st rs := by unfold apQ; rw [if_neg (by rw [h]; decide)]
theorem wrl56 {w : World} {n : Nat} {c : Array Value} {t : TypeId} (h : w.heap[n]? = some (.cells c t (0, 0))) (hc : c.size = 56) : WrL w n 0 56 := WrL_block h (by omega)
theorem put56 {w w1 : World} {n : Nat} {c : Array Value} {t : TypeId} {l : List Value} (h : w.heap[n]? = some (.cells c t (0, 0))) (hc : c.size = 56) (hl : l.length = 56) (hp : PutB w n 0 l w1) : w1.heap[n]? = some (.cells l.toArray t (0, 0)) := by
  have h1 := hp.block h
  rw [h1]
  have e : putL c.toList 0 l = l := by
    apply List.ext_getElem?
    intro t
    rcases Nat.lt_or_ge t 56 with ht | ht
    · rw [putL_get _ _ _ _ (by simp [hc, hl]), if_pos (by omega), Nat.sub_zero]
    · rw [List.getElem?_eq_none (by rw [putL_len]; simp [hc]; omega), List.getElem?_eq_none (by omega)]
  rw [e]
theorem kept2 {w0 wa wb : World} (ha : K0 w0 wa) (hb : K0 w0 wb) (hs : wa.heap.size ≤ wb.heap.size) {ns : List Nat} (hn : ∀ z ∈ ns, z < w0.heap.size) : KeptL ns wa wb := ⟨hs, fun z hz _ => by rw [hb.block z (hn z hz) (fun h => h), ha.block z (hn z hz) (fun h => h)]⟩
section
variable {w0 w w' : World} {b mb eb m : Nat} {q : Qu} {M : Mo} {P : Pl}
theorem SW.off (h : SW w0 w b mb eb m q M P) {N : Nat → Prop} {t : TypeId} (hk : Kp N w w') (hN : ∀ k, N k → w0.heap.size ≤ k ∧ ∃ c f, w.heap[k]? = some (.cells c t f)) (ht : (t == 57 || t == 93 || t == 91 || t == 45) = false) (hq : (t == 98) = false) : SW w0 w' b mb eb m q M P := by
  have no : ∀ {k : Nat} {c : Array Value} {t' : TypeId} {f : Nat × Nat}, w.heap[k]? = some (.cells c t' f) → (t == t') = false → ¬ N k := fun hc hne hn => by
    obtain ⟨_, c', f', hc'⟩ := hN _ hn
    rw [hc] at hc'
    cases hc'
    simp at hne
  have nm : ∀ {k : Nat} {es : Array MapEntry} {c : Nat}, w.heap[k]? = some (.map es c) → ¬ N k := fun hc hn => by
    obtain ⟨_, c', f', hc'⟩ := hN _ hn
    rw [hc] at hc'
    cases hc'
  have ta : (t == 45) = false := by
    simp only [Bool.or_eq_false_iff] at ht
    exact ht.2
  have n1 : ¬ N mb := by obtain ⟨es, c', hb, _⟩ := h.mq.mm.blk; exact nm hb
  have n2 : ¬ N eb := by obtain ⟨es, c', hb, _⟩ := h.mq.me.blk; exact nm hb
  refine ⟨⟨hk.blk h.mq.st (no h.mq.st hq), h.mq.mm.kp hk n1, h.mq.me.kp hk n2, fun g x hx => (h.mq.row g x hx).ty (h.qs g x hx) hk (fun k c f hc => no hc ta), h.mq.ne, h.mq.nz⟩, fun g x hx => (h.qs g x hx).kp hk (fun k c f hc => no hc ta), h.mr.off hk (fun k hn => (hN k hn).2) ht, h.k.fresh hk (fun i hi hn => ?_), h.gb, h.gm, h.ge⟩
  have := (hN i hn).1
  omega
end
/-- Blocks of cells that are no queue are kept. -/
def KQ (w w' : World) : Prop := w.heap.size ≤ w'.heap.size ∧ ∀ (k : Nat) (c : Array Value) (t : TypeId) (f : Nat × Nat), w.heap[k]? = some (.cells c t f) → (t == 98) = false → w'.heap[k]? = some (.cells c t f)
theorem Mq.kq {w w' : World} {b mb eb : Nat} {q : Qu} (h : Mq w b mb eb q) (hk : Kp (QB b mb eb) w w') : KQ w w' := ⟨hk.size, fun _ _ _ _ hc ht => hk.blk hc (h.not_ty hc ht)⟩
theorem setg1 : setE kG [auN 1] = 0 := by
  unfold setE
  rw [if_neg (by rw [k_gn]; decide), if_neg (by decide), if_pos]
  decide +kernel
set_option maxRecDepth 100000 in
set_option maxHeartbeats 16000000 in
theorem lcmds_any (f : Nat → Int) (hf : BY f ∧ NZ 32 f) (t s : ByteArray) (ht : t.size ≤ 4611686018427387904) (hs : s.size ≤ 4611686018427387904) (fi : Bool) (w : World) (hG : GW w) :
    Calls Tryz.prog 4 #[.agg (arrI .u8 f 32 0).toArray, .agg (([.string t, .string s] : List Value)).toArray, .bool fi] w fun e w' => e = .returned (.bool true) ∧ K0 w w' := by
  refine vc_lcmds f t s fi w _ (fun n n1 W hW => ?_)
  have kW : K0 w W := hW.kk rfl
  clear hW
  refine ⟨(known_any W (hG.kp kW (fun h => h))).mono fun e w1 ⟨he, k1⟩ => ⟨_, he, .of_k0 k1, bsp_intro (fun h => by cases h) (fun _ W2 hW2 => ?_)⟩⟩
  have k2 : K0 w W2 := hW2.k0 (kW.trans k1)
  have z0 := hW2.cells 0 rfl
  have z1 := hW2.cells 1 rfl
  clear hW2
  have hG2 : GW W2 := hG.kp k2 (fun h => h)
  refine ⟨(lstart_any 3 2 (by decide) W2 hG2).mono fun e w3 ⟨b, mb, eb, m, q, M, P, he, h3, r, h0, _⟩ => ⟨_, _, he, .of_k0 h3.k, ⟨by split <;> omega, by split <;> omega⟩, fun W4 hW4 => ?_⟩⟩
  have k34 : K0 w3 W4 := hW4.kk rfl
  clear hW4
  have h4 := h3.k0 k34
  have b0 := h4.k.blk z0 (fun h => h)
  have b1 := h4.k.blk z1 (fun h => h)
  have htx : (t.extract 0 (if 300 < (t.size : Int) then 300 else (t.size : Int)).toNat).size ≤ 300 := by rw [ByteArray.size_extract]; split <;> omega
  generalize t.extract 0 (if 300 < (t.size : Int) then 300 else (t.size : Int)).toNat = tx at htx ⊢
  have hrs : (s.extract 0 (if 250 < (s.size : Int) then 250 else (s.size : Int)).toNat).size ≤ 250 := by rw [ByteArray.size_extract]; split <;> omega
  refine ⟨(submit_any h4.mq r.qo f hf.1 kG tx 100 (h4.gw hG2)).mono fun e w5 ⟨he, hq5, k5⟩ => ⟨_, he, h4.qk k5 (fun z hz => ?_), ⟨by split <;> omega, by split <;> omega⟩, ?_⟩⟩
  · simp only [List.mem_cons, List.not_mem_nil, or_false] at hz
    rcases hz with rfl | rfl
    · exact ⟨_, _, _, b0, rfl⟩
    · exact ⟨_, _, _, b1, rfl⟩
  generalize s.extract 0 (if 250 < (s.size : Int) then 250 else (s.size : Int)).toNat = rs at hrs ⊢
  have h5 := h4.qop hq5 k5 (subQ_ms ..)
  have q1 := q1_sub r h0 hf htx
  generalize subQ q f kG tx 100 = Q at h5 q1 hq5
  have hkG : kG.size ≤ 1073741824 := by decide
  have a1 := auN_ok (n := 1) (by decide)
  have a2 := auN_ok (n := 2) (by decide)
  have l0 := block_lt z0
  have l1 := block_lt z1
  simp only at l0 l1
  have hns : ∀ z ∈ [n1, n], z < W2.heap.size := fun z hz => by
    simp only [List.mem_cons, List.not_mem_nil, or_false] at hz
    rcases hz with rfl | rfl
    · exact l0
    · exact l1
  have hat : ∀ wx, K0 W2 wx → AtL wx n 0 (arrI .u8 f 32 0) := fun wx k => AtL_block (k.blk z1 (fun h => h)) rfl
  refine bsp_intro (fun _ W6 hW6 => ?_) (fun _ n2 W6 hW6 => ?_)
  · have k6 : K0 w5 W6 := hW6.kk rfl
    clear hW6
    have h6 := h5.k0 k6
    have q2 := q1_fin h6.mq.dis q1 (st := 1) ⟨by decide, by decide⟩ (rs := ⟨#[]⟩) (by decide)
    have e1 : apE Q f kG (auN 1) 101 = 0 := by rw [apE_of (by decide)]; exact q1_dec0 q1
    have eQ : apQ Q f kG (auN 1) 101 1 ⟨#[]⟩ = decQ Q f kG (auN 1) 101 1 ⟨#[]⟩ := apQ_of (by decide)
    have mQ : (decQ Q f kG (auN 1) 101 1 ⟨#[]⟩).ms = Q.ms := decQ_ms ..
    have hne : (plainE (finS39 (newE f kG tx 100).s (auN 1) 101 1 ⟨#[]⟩)).s.st ≠ 0 := by show (1 : Int) ≠ 0; decide
    have g2 := q1_again q2 hne 2 (.inr rfl) 102 1 ⟨#[]⟩
    have e2 : apE (decQ Q f kG (auN 1) 101 1 ⟨#[]⟩) f kG (auN 2) 102 = 10 := by rw [apE_of (by decide)]; exact g2.1
    have eQ2 : apQ (decQ Q f kG (auN 1) 101 1 ⟨#[]⟩) f kG (auN 2) 102 1 ⟨#[]⟩ = decQ Q f kG (auN 1) 101 1 ⟨#[]⟩ := by rw [apQ_of (by decide)]; exact g2.2
    have g3 := q1_again q2 hne 1 (.inl rfl) 103 2 ⟨#[]⟩
    have e3 : rejE (decQ Q f kG (auN 1) 101 1 ⟨#[]⟩) f kG (auN 1) ⟨#[]⟩ 103 = 10 := by
      unfold rejE
      rw [if_neg (by decide), if_neg (by decide), if_neg (by rw [prt_nil]; decide)]
      exact g3.1
    have eQ3 : rejQ (decQ Q f kG (auN 1) 101 1 ⟨#[]⟩) f kG (auN 1) ⟨#[]⟩ 103 = decQ Q f kG (auN 1) 101 1 ⟨#[]⟩ := by
      unfold rejQ
      rw [if_neg (by decide), if_neg (by decide), if_neg (by rw [prt_nil]; decide)]
      exact g3.2
    -- the first approval
    have A1 : ∀ wx, SW W2 wx b mb eb m Q M P → Calls Tryz.prog 19 #[.pointer (some ⟨b, 0, none⟩), .agg (arrI .u8 f 32 0).toArray, .string kG, .agg (arrI .u8 (auN 1) 16 0).toArray, .int .i64 101] wx fun e w' => e = .returned (.tuple #[.agg (apC 2 f kG).toArray, .int .i64 0]) ∧ SW W2 w' b mb eb m (decQ Q f kG (auN 1) 101 1 ⟨#[]⟩) M P ∧ KQ wx w' := fun wx hx => (approve_any hx.mq q1.ok q1.ln f hf.1 kG hkG (auN 1) a1.1 101).mono fun e w' ⟨he, hq, hk⟩ => by
      rw [e1] at he
      rw [eQ] at hq
      exact ⟨he, hx.qop hq hk mQ, hx.mq.kq hk⟩
    have A2 : ∀ wx, SW W2 wx b mb eb m (decQ Q f kG (auN 1) 101 1 ⟨#[]⟩) M P → Calls Tryz.prog 19 #[.pointer (some ⟨b, 0, none⟩), .agg (arrI .u8 f 32 0).toArray, .string kG, .agg (arrI .u8 (auN 2) 16 0).toArray, .int .i64 102] wx fun e w' => e = .returned (.tuple #[.agg (apC 0 (fun _ => 0) ⟨#[]⟩).toArray, .int .i64 10]) ∧ SW W2 w' b mb eb m (decQ Q f kG (auN 1) 101 1 ⟨#[]⟩) M P ∧ KQ wx w' := fun wx hx => (approve_any hx.mq q2.ok q2.ln f hf.1 kG hkG (auN 2) a2.1 102).mono fun e w' ⟨he, hq, hk⟩ => by
      rw [e2] at he
      rw [eQ2] at hq
      exact ⟨he, hx.qop hq hk rfl, hx.mq.kq hk⟩
    have A3 : ∀ wx, SW W2 wx b mb eb m (decQ Q f kG (auN 1) 101 1 ⟨#[]⟩) M P → Calls Tryz.prog 24 #[.pointer (some ⟨b, 0, none⟩), .agg (arrI .u8 f 32 0).toArray, .string kG, .agg (arrI .u8 (auN 1) 16 0).toArray, .string ⟨#[]⟩, .int .i64 103] wx fun e w' => e = .returned (.int .i64 10) ∧ SW W2 w' b mb eb m (decQ Q f kG (auN 1) 101 1 ⟨#[]⟩) M P ∧ KQ wx w' := fun wx hx => (reject_any hx.mq q2.ok q2.ln f hf.1 kG hkG (auN 1) a1.1 ⟨#[]⟩ 103).mono fun e w' ⟨he, hq, hk⟩ => by
      rw [e3] at he
      rw [eQ3] at hq
      exact ⟨he, hx.qop hq hk rfl, hx.mq.kq hk⟩
    have A4 : ∀ wx, SW W2 wx b mb eb m (decQ Q f kG (auN 1) 101 1 ⟨#[]⟩) M P → Calls Tryz.prog 21 #[.pointer (some ⟨b, 0, none⟩), .agg (arrI .u8 f 32 0).toArray, .string kG] wx fun e w' => e = .returned (.tuple #[sbV (finS39 (newE f kG tx 100).s (auN 1) 101 1 ⟨#[]⟩), .bool true]) ∧ K0 wx w' := fun wx hx => (get_any hx.mq f hf.1 kG hkG).mono fun e w' ⟨he, hk⟩ => by
      rw [q2.en, en_some q2.en] at he
      exact ⟨he, hk⟩
    generalize decQ Q f kG (auN 1) 101 1 ⟨#[]⟩ = Q2 at A1 A2 A3 A4
    refine ⟨fun wx => K0 W2 wx, h6.k, f, hat, ⟨(lauthor_any 1 W6).mono fun e w7 ⟨he, k7⟩ => ⟨_, he, h6.k.trans k7,
        ⟨(A1 w7 (h6.k0 k7)).mono fun e w8 ⟨he, h8, k8⟩ => ⟨2, f, kG, 0, false, none, 0, 0, ⟨#[]⟩, 0, 0, (fun _ => 0), 0, he, fun n3 w9 hn => ⟨h8.k.trans (hn.kp _), wrl56 hn.block rfl, fun wt hp => ?ta⟩⟩⟩,
        fun n3 w8 hn => ⟨(h6.k.trans k7).trans (hn.kp _), ⟨(A1 w8 ((h6.k0 k7).k0 (hn.kp _))).mono fun e w9 ⟨he, h9, k9⟩ => ⟨2, f, kG, 0, false, none, 0, 0, ⟨#[]⟩, 0, 0, (fun _ => 0), 0, he, wrl56 (k9.2 _ _ _ _ hn.block rfl) rfl, fun wt hp => ?tb⟩⟩⟩⟩⟩,
      fun n3 w7 hn => ⟨h6.k.trans (hn.kp _), ⟨(lauthor_any 1 w7).mono fun e w8 ⟨he, k8⟩ => ⟨_, he, (h6.k.trans (hn.kp _)).trans k8, ⟨(A1 w8 ((h6.k0 (hn.kp _)).k0 k8)).mono fun e w9 ⟨he, h9, k9⟩ => ⟨2, f, kG, 0, false, none, 0, 0, ⟨#[]⟩, 0, 0, (fun _ => 0), 0, he, wrl56 (k9.2 _ _ _ _ (k8.blk hn.block (fun h => h)) rfl) rfl, fun wt hp => ?tc⟩⟩⟩⟩⟩⟩
    case' ta =>
      have g3 : W2.heap.size ≤ n3 := Nat.le_trans h8.k.size hn.ge
      have H := (h8.k0 (hn.kp _)).off hp.kp (t := 42) (fun k e => by have e : k = n3 := e; subst e; exact ⟨g3, _, _, hn.block⟩) rfl rfl
      have c3 := put56 hn.block rfl rfl hp
      have sz : W6.heap.size ≤ wt.heap.size := Nat.le_trans (Nat.le_trans k7.size k8.1) (Nat.le_trans (hn.kp (fun _ => False)).size hp.kp.size)
      clear h8 k7 k8 hn hp he
    case' tb =>
      have g3 : W2.heap.size ≤ n3 := Nat.le_trans (h6.k.trans k7).size hn.ge
      have H := h9.off hp.kp (t := 42) (fun k e => by have e : k = n3 := e; subst e; exact ⟨g3, _, _, k9.2 _ _ _ _ hn.block rfl⟩) rfl rfl
      have c3 := put56 (k9.2 _ _ _ _ hn.block rfl) rfl rfl hp
      have sz : W6.heap.size ≤ wt.heap.size := Nat.le_trans (Nat.le_trans k7.size (hn.kp (fun _ => False)).size) (Nat.le_trans k9.1 hp.kp.size)
      clear h9 k7 k9 hn hp he
    case' tc =>
      have g3 : W2.heap.size ≤ n3 := Nat.le_trans h6.k.size hn.ge
      have H := h9.off hp.kp (t := 42) (fun k e => by have e : k = n3 := e; subst e; exact ⟨g3, _, _, k9.2 _ _ _ _ (k8.blk hn.block (fun h => h)) rfl⟩) rfl rfl
      have c3 := put56 (k9.2 _ _ _ _ (k8.blk hn.block (fun h => h)) rfl) rfl rfl hp
      have sz : W6.heap.size ≤ wt.heap.size := Nat.le_trans (Nat.le_trans (hn.kp (fun _ => False)).size k8.size) (Nat.le_trans k9.1 hp.kp.size)
      clear h9 k8 k9 hn hp he
    all_goals
      refine ⟨kept2 h6.k H.k sz hns, fun Wv hWv => ?_⟩
      have kv : K0 wt Wv := hWv.kk rfl
      have hv := H.k0 kv
      have cv := kv.blk c3 (fun h => h)
      clear hWv
      clear c3 sz H g3
      rename Nat => nc
      refine ⟨fun wx => K0 W2 wx, hv.k, f, hat, ⟨(lauthor_any 2 Wv).mono fun e w7 ⟨he, k7⟩ => ⟨_, he, hv.k.trans k7,
        ⟨(A2 w7 (hv.k0 k7)).mono fun e w8 ⟨he, h8, k8⟩ => ⟨0, (fun _ => 0), ⟨#[]⟩, 0, false, none, 0, 0, ⟨#[]⟩, 0, 0, (fun _ => 0), 10, he, fun n5 w9 hn => ⟨h8.k.trans (hn.kp _), wrl56 hn.block rfl, fun wu hp => ?_⟩⟩⟩,
        fun n5 w8 hn => ⟨(hv.k.trans k7).trans (hn.kp _), ⟨(A2 w8 ((hv.k0 k7).k0 (hn.kp _))).mono fun e w9 ⟨he, h9, k9⟩ => ⟨0, (fun _ => 0), ⟨#[]⟩, 0, false, none, 0, 0, ⟨#[]⟩, 0, 0, (fun _ => 0), 10, he, wrl56 (k9.2 _ _ _ _ hn.block rfl) rfl, fun wu hp => ?_⟩⟩⟩⟩⟩,
      fun n5 w7 hn => ⟨hv.k.trans (hn.kp _), ⟨(lauthor_any 2 w7).mono fun e w8 ⟨he, k8⟩ => ⟨_, he, (hv.k.trans (hn.kp _)).trans k8, ⟨(A2 w8 ((hv.k0 (hn.kp _)).k0 k8)).mono fun e w9 ⟨he, h9, k9⟩ => ⟨0, (fun _ => 0), ⟨#[]⟩, 0, false, none, 0, 0, ⟨#[]⟩, 0, 0, (fun _ => 0), 10, he, wrl56 (k9.2 _ _ _ _ (k8.blk hn.block (fun h => h)) rfl) rfl, fun wu hp => ?_⟩⟩⟩⟩⟩⟩
      have g3 : W2.heap.size ≤ n5 := Nat.le_trans h8.k.size hn.ge
      have H := (h8.k0 (hn.kp _)).off hp.kp (t := 42) (fun k e => by have e : k = n5 := e; subst e; exact ⟨g3, _, _, hn.block⟩) rfl rfl
      have c5 := put56 hn.block rfl rfl hp
      have sz : Wv.heap.size ≤ wu.heap.size := Nat.le_trans (Nat.le_trans k7.size k8.1) (Nat.le_trans (hn.kp (fun _ => False)).size hp.kp.size)
      have cv' := hp.kp.blk ((hn.kp (fun _ => False)).blk (k8.2 _ _ _ _ (k7.blk cv (fun h => h)) rfl) (fun h => h)) (fun e => by have := block_lt cv; have := hn.ge; have := k8.1; have := k7.size; have e : _ = n5 := e; omega)
      clear h8 k7 k8 hn hp he
      rotate_left
      have g3 : W2.heap.size ≤ n5 := Nat.le_trans (hv.k.trans k7).size hn.ge
      have H := h9.off hp.kp (t := 42) (fun k e => by have e : k = n5 := e; subst e; exact ⟨g3, _, _, k9.2 _ _ _ _ hn.block rfl⟩) rfl rfl
      have c5 := put56 (k9.2 _ _ _ _ hn.block rfl) rfl rfl hp
      have sz : Wv.heap.size ≤ wu.heap.size := Nat.le_trans (Nat.le_trans k7.size (hn.kp (fun _ => False)).size) (Nat.le_trans k9.1 hp.kp.size)
      have cv' := hp.kp.blk (k9.2 _ _ _ _ ((hn.kp (fun _ => False)).blk (k7.blk cv (fun h => h)) (fun h => h)) rfl) (fun e => by have := block_lt cv; have := hn.ge; have := k7.size; have e : _ = n5 := e; omega)
      clear h9 k7 k9 hn hp he
      rotate_left
      have g3 : W2.heap.size ≤ n5 := Nat.le_trans hv.k.size hn.ge
      have H := h9.off hp.kp (t := 42) (fun k e => by have e : k = n5 := e; subst e; exact ⟨g3, _, _, k9.2 _ _ _ _ (k8.blk hn.block (fun h => h)) rfl⟩) rfl rfl
      have c5 := put56 (k9.2 _ _ _ _ (k8.blk hn.block (fun h => h)) rfl) rfl rfl hp
      have sz : Wv.heap.size ≤ wu.heap.size := Nat.le_trans (Nat.le_trans (hn.kp (fun _ => False)).size k8.size) (Nat.le_trans k9.1 hp.kp.size)
      have cv' := hp.kp.blk (k9.2 _ _ _ _ (k8.blk ((hn.kp (fun _ => False)).blk cv (fun h => h)) (fun h => h)) rfl) (fun e => by have := block_lt cv; have := hn.ge; have e : _ = n5 := e; omega)
      clear h9 k8 k9 hn hp he
      rotate_left
      all_goals
        refine ⟨kept2 hv.k H.k sz hns, ⟨(A4 wu H).mono fun e w14 ⟨he, k14⟩ => ⟨_, _, _, _, _, _, _, _, _, he, .of_k0 k14, fun n6 Wz hWz => ?_⟩⟩⟩
        have kz : K0 w14 Wz := hWz.kk rfl
        have hz := (H.k0 k14).k0 kz
        have d6 := hWz.cells 0 rfl
        have e6 := d6
        have d3 := kz.blk (k14.blk cv' (fun h => h)) (fun h => h)
        clear hWz
        have hcm : cmdL 0 f kG = apC 2 f kG := if_pos rfl
        refine ⟨fun wx => wx.heap[nc]? = some (.cells (apC 2 f kG).toArray 42 (0, 0)) ∧ wx.heap[n6]? = some (.cells (sbC (finS39 (newE f kG tx 100).s (auN 1) 101 1 ⟨#[]⟩)).toArray 48 (0, 0)) ∧ K0 W2 wx, ⟨d3, d6, hz.k⟩, 2, f, kG, 0, false, none, 0, 0, ⟨#[]⟩, 0, 0, fun _ => 0, gimp_intro fun _ wx hx => AtL_block hx.1 rfl, f, gimp_intro fun _ wx hx => hat wx hx.2.2, bsp_intro (fun _ => ?_) (fun h => absurd h (by decide))⟩
        refine ⟨(xcomm_any f kG 0 Wz).mono fun e w15 ⟨he, k15⟩ => ⟨2, f, kG, 0, false, none, 0, 0, ⟨#[]⟩, 0, 0, fun _ => 0, by rw [hcm] at he; exact he, ⟨k15.blk d3 (fun h => h), k15.blk d6 (fun h => h), hz.k.trans k15⟩, ?_⟩⟩
        refine ⟨(ceq_any 2 f hf.1 kG w15).mono fun e w16 ⟨he, k16⟩ => ⟨_, he, ⟨(k15.trans k16).blk d3 (fun h => h), (k15.trans k16).blk d6 (fun h => h), (hz.k.trans k15).trans k16⟩, f, gimp_intro fun _ wx hx => hat wx hx.2.2, bsp_intro (fun _ => ?_) (fun h => by simp at h)⟩⟩
        have k16' := k15.trans k16
        refine ⟨(lauthor_any 1 w16).mono fun e w17 ⟨he, k17⟩ => ⟨_, he, ⟨(k16'.trans k17).blk d3 (fun h => h), (k16'.trans k17).blk d6 (fun h => h), (hz.k.trans k16').trans k17⟩, ?_⟩⟩
        have h17 := hz.k0 (k16'.trans k17)
        have d3 := (k16'.trans k17).blk d3 (fun h => h)
        have d6 := (k16'.trans k17).blk d6 (fun h => h)
        refine ⟨(A3 w17 h17).mono fun e w18 ⟨he, h18, k18⟩ => ⟨_, he, ⟨k18.2 _ _ _ _ d3 rfl, k18.2 _ _ _ _ d6 rfl, h18.k⟩, 1, gimp_intro fun _ wx hx => cell_at hx.2.1 rfl, auN 1, gimp_intro fun _ wx hx => AtL_block hx.2.1 rfl, bsp_intro (fun _ => ?_) (fun h => by simp at h)⟩⟩
        have d3 := k18.2 _ _ _ _ d3 rfl
        have d6 := k18.2 _ _ _ _ d6 rfl
        refine ⟨(lauthor_any 1 w18).mono fun e w19 ⟨he, k19⟩ => ⟨_, he, ⟨k19.blk d3 (fun h => h), k19.blk d6 (fun h => h), h18.k.trans k19⟩, _, auEq a1.1 a1.1, 101, gimp_intro fun _ wx hx => cell_at hx.2.1 rfl, ⟨#[]⟩, gimp_intro fun _ wx hx => cell_at hx.2.1 rfl, ?_, ?_, k2.trans (h18.k.trans k19)⟩⟩
        · have kl : KeptL [n1, n] Wz w19 := kept2 hz.k (h18.k.trans k19) (Nat.le_trans (k16'.trans k17).size (Nat.le_trans k18.1 k19.size)) hns
          refine ⟨kl.size, fun z hz' hl => ?_⟩
          rcases List.mem_cons.1 hz' with rfl | h
          · rw [k19.blk d6 (fun h => h)]; exact e6.symm
          · exact kl.h z h hl
        · simp
  · have k6 : K0 w5 W6 := hW6.kk rfl
    have m0 := hW6.cells 0 rfl
    have g2 : w5.heap.size ≤ n2 := hW6.fresh 0 rfl rfl
    clear hW6
    have h6q := h5.k0 k6
    have hM6 : MoR W6 W2.heap.size n2 ⟨3, 2, [], []⟩ ⟨none, 0, none, 0⟩ := ⟨m0, by have := h5.k.size; omega, World.ownsRow_nil _ _ _ _, World.ownsRow_nil _ _ _ _, fun y hy => by cases hy⟩
    have h6 : SW W2 W6 b mb eb n2 Q ⟨3, 2, [], []⟩ ⟨none, 0, none, 0⟩ := ⟨h6q.mq, h6q.qs, hM6, h6q.k, h6q.gb, h6q.gm, h6q.ge⟩
    clear h6q hM6 m0
    refine ⟨(lauthor_any 1 W6).mono fun e w7 ⟨he, k7⟩ => ⟨_, he, .of_k0 k7, fun n3 W8 hW8 => ?_⟩⟩
    have h8 := h6.k0 (k7.trans (hW8.kk rfl))
    have c8 := hW8.cells 0 rfl
    clear hW8
    refine ⟨(xset_any h8.mr (by show (0 : Nat) ≤ _; omega) kG [auN 1] (some ⟨n3, 0, none⟩) 1 (row1 c8) (fun z hz => (au1 z hz).1)).mono fun e w9 ⟨he, hx, k9⟩ => ⟨_, he, kept2 h8.k (h8.mf k9) k9.size hns, ?_⟩⟩
    rcases hx with ⟨hne, _⟩ | ⟨_, X, P9, hp9, hs9, hM9⟩
    · exact absurd setg1 hne
    have h9 := h8.mop hM9 k9
    have r9 := (Rq.new 3 2 (by decide)).setr au1 (.inr (.inr ⟨setg1, (by simp), ⟨[auN 1], none, 1⟩, .refl _, by simp, by decide, rfl⟩)) setg1 hp9 hs9
    have o9 := r9.mo (by omega)
    have hX : X.l = [auN 1] := List.perm_singleton.1 hp9
    have hmd9 : ({ (⟨3, 2, [], []⟩ : Mo) with gs := gset [] kG X } : Mo).md kG = X := by
      have := gset_md ⟨3, 2, [], []⟩ kG X kG
      rw [if_pos rfl] at this
      exact this
    have hE : xsubE { (⟨3, 2, [], []⟩ : Mo) with gs := gset [] kG X } f kG ⟨#[]⟩ 100 = 0 := by
      unfold xsubE
      rw [if_neg (by decide), if_neg (by rw [k_gn]; decide), if_neg (by decide), hmd9, hX, if_neg (by decide), if_neg (by show ¬ (none : Option En).isSome = true; decide), if_neg (by show ¬ (3 : Int) ≤ (0 : Nat); decide)]
    refine ⟨(xsubmit_any h9.mr o9 List.Pairwise.nil f hf.1 kG ⟨#[]⟩ 100).mono fun e w10 ⟨he, hx, k10⟩ => ⟨_, he, kept2 h9.k (h9.mf k10) k10.size hns, fun W11 hW11 => ?_⟩⟩
    rcases hx with ⟨hne, _⟩ | ⟨_, L, P10, hpL, hsL, hM10⟩
    · exact absurd hE hne
    have hL : L = [newE f kG ⟨#[]⟩ 100] := List.perm_singleton.1 hpL
    have h10 := h9.mop hM10 k10
    have r10 := r9.ins hf hE hpL hsL
    have o10 := r10.mo (by omega)
    have h11 := h10.k0 (hW11.kk rfl)
    clear hW11
    subst hL
    have hV : xdcE ({ (⟨3, 2, gset [] kG X, []⟩ : Mo) with es := [newE f kG ⟨#[]⟩ 100] } : Mo) f kG (auN 1) 2 rs 101 = if 200 < rs.size then 5 else if prtB rs = false then 6 else 0 := by
      have hmb : isMB (({ (⟨3, 2, gset [] kG X, []⟩ : Mo) with es := [newE f kG ⟨#[]⟩ 100] } : Mo).md kG) (auN 1) = true := by
        show isMB (({ (⟨3, 2, [], []⟩ : Mo) with gs := gset [] kG X } : Mo).md kG) (auN 1) = true
        rw [hmd9]
        unfold isMB
        rw [hX, decide_eq_true_eq]
        exact List.mem_cons_self
      have hfd : ({ (⟨3, 2, gset [] kG X, []⟩ : Mo) with es := [newE f kG ⟨#[]⟩ 100] } : Mo).fd (idI f, kG) = some (newE f kG ⟨#[]⟩ 100) := dis_fd (i := 0) r10.dis rfl rfl
      unfold xdcE
      rw [if_neg (by decide), hmb, hfd]
      simp only [true_and]
      rw [if_neg (c := true = false) (by decide), if_neg (c := (newE f kG ⟨#[]⟩ 100).s.st ≠ 0) (by show ¬ (0 : Int) ≠ 0; decide), if_neg (c := blk (newE f kG ⟨#[]⟩ 100) (auI (auN 1)) 101 = true) (by unfold blk inE newE; simp)]
    have hJ : rejE Q f kG (auN 1) rs 101 = if 200 < rs.size then 5 else if prtB rs = false then 6 else 0 := by
      unfold rejE
      rw [if_neg (by decide), q1_dec0 q1]
    have hY : ∃ y : En, aget (rejQ Q f kG (auN 1) rs 101).es (idI f, kG) = some y ∧ (((if 200 < rs.size then 5 else if prtB rs = false then 6 else 0 : Int) = 0 ∧ y.s.st = 2 ∧ y.s.rs = rs ∧ y.s.mo = auN 1) ∨ ((if 200 < rs.size then 5 else if prtB rs = false then 6 else 0 : Int) ≠ 0 ∧ y.s.st = 0)) := by
      by_cases h1 : 200 < rs.size
      · refine ⟨newE f kG tx 100, ?_, .inr ⟨by rw [if_pos h1]; decide, rfl⟩⟩
        unfold rejQ
        rw [if_neg (by decide), if_pos h1]
        exact q1.en
      by_cases h2 : prtB rs = false
      · refine ⟨newE f kG tx 100, ?_, .inr ⟨by rw [if_neg h1, if_pos h2]; decide, rfl⟩⟩
        unfold rejQ
        rw [if_neg (by decide), if_neg h1, if_pos h2]
        exact q1.en
      · refine ⟨plainE (finS39 (newE f kG tx 100).s (auN 1) 101 2 rs), ?_, .inl ⟨by rw [if_neg h1, if_neg h2], rfl, rfl, rfl⟩⟩
        unfold rejQ
        rw [if_neg (by decide), if_neg h1, if_neg h2]
        exact (q1_fin h6.mq.dis q1 (st := 2) ⟨by decide, by decide⟩ (by omega)).en
    have hV : xdcE ({ (⟨3, 2, gset [] kG X, []⟩ : Mo) with es := [newE f kG ⟨#[]⟩ 100] } : Mo) f kG (auN 1) 2 rs 101 = _ := hV
    generalize (if 200 < rs.size then 5 else if prtB rs = false then 6 else 0 : Int) = E0 at hV hJ hY
    refine ⟨fun wx => K0 W2 wx, h11.k, f, hat, ⟨(lauthor_any 1 W11).mono fun e w12 ⟨he, k12⟩ => ⟨_, he, h11.k.trans k12, ⟨(xdecide_any (h11.k0 k12).mr o10 f hf.1 kG (auN 1) a1.1 2 rs (by omega) 101).mono fun e w13 ⟨he, hM13, k13⟩ => ⟨_, he, kept2 h11.k ((h11.k0 k12).mf k13) (Nat.le_trans k12.size k13.size) hns, fun W14 hW14 => ?_⟩⟩⟩⟩⟩
    have h14 := ((h11.k0 k12).mop hM13 k13).k0 (hW14.kk rfl)
    clear hW14
    refine ⟨fun wx => K0 W2 wx, h14.k, f, hat, ⟨(lauthor_any 1 W14).mono fun e w15 ⟨he, k15⟩ => ⟨_, he, h14.k.trans k15, ⟨(reject_any (h14.k0 k15).mq q1.ok q1.ln f hf.1 kG hkG (auN 1) a1.1 rs 101).mono fun e w16 ⟨he, hq16, k16⟩ => ?_⟩⟩⟩⟩
    have h16 := (h14.k0 k15).qop hq16 k16 (rejQ_ms ..)
    refine ⟨_, he, kept2 h14.k h16.k (Nat.le_trans k15.size k16.size) hns, ?_⟩
    obtain ⟨y, hy, hfacts⟩ := hY
    refine ⟨(get_any h16.mq f hf.1 kG hkG).mono fun e w17 ⟨he, k17⟩ => ?_⟩
    rw [hy, en_some hy] at he
    refine ⟨y.s.id, y.s.g, y.s.tx, y.s.r, y.s.st, y.s.mo, y.s.de, y.s.rs, _, he, .of_k0 k17, fun n4 Wz hWz => ?_⟩
    have hz := (h16.k0 k17).k0 (hWz.kk rfl)
    have d4 := hWz.cells 0 rfl
    clear hWz
    rw [hV, hJ]
    refine ⟨fun wx => wx.heap[n4]? = some (.cells (sbC y.s).toArray 48 (0, 0)) ∧ K0 W2 wx, ⟨d4, hz.k⟩, y.s.st, gimp_intro fun _ wx hx => cell_at hx.1 rfl, y.s.rs, gimp_intro fun _ wx hx => cell_at hx.1 rfl, y.s.mo, gimp_intro fun _ wx hx => AtL_block hx.1 rfl, bsp_intro (fun _ => ?_) (fun h => by simp at h)⟩
    rw [str_beq]
    have kl : ∀ wx, K0 Wz wx → KeptL [n4, n1, n] Wz wx := fun wx k => .of_k0 k
    refine bsp_intro (fun hc => ?_) (fun hc => ?_)
    · have hE0 : E0 = 0 := by simp at hc; exact hc.1.1
      rcases hfacts with ⟨_, _, _, hmo⟩ | ⟨hne, _⟩
      · rw [hmo]
        refine ⟨(lauthor_any 1 Wz).mono fun e w20 ⟨he, k20⟩ => ⟨_, he, ⟨k20.blk d4 (fun h => h), hz.k.trans k20⟩, _, auEq a1.1 a1.1, y.s.st, gimp_intro fun _ wx hx => cell_at hx.1 rfl, kl _ k20, by simp, k2.trans (hz.k.trans k20)⟩⟩
      · exact absurd hE0 hne
    · rcases hfacts with ⟨h1, h2, h3, _⟩ | ⟨hne, h2⟩
      · exfalso
        rw [h1, h2, h3] at hc
        simp at hc
      · exact ⟨⟨d4, hz.k⟩, y.s.st, gimp_intro fun _ wx hx => cell_at hx.1 rfl, .refl _ _, by simp [hne, h2], k2.trans hz.k⟩

end Go.Proofs.YtfacflbmlfbeeaaGreatDoor
