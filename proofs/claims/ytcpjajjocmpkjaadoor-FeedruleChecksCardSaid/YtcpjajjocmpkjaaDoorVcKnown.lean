/- The formulas of functions by the symbolic evaluator, and that each gives the call's contract. Written by a program (gen.py). No condition. -/
import Derived.Test.YtcpjajjocmpkjaaDoorProg
import Derived.Test.YtcpjajjocmpkjaaDoorSound
import Derived.Test.YtcpjajjocmpkjaaDoorPur1
import Derived.KernelRfl
namespace Go.Proofs.YtcpjajjocmpkjaaDoor
set_option maxRecDepth 100000
set_option linter.unusedVariables false

def VC_known (w : World) (R : Ending → World → Prop) : Prop :=
 ∀ (n : Nat) (w1 : World),
 NewB w (Obj.cells #[Value.string (ByteArray.mk #[119, 111, 114, 108, 100])] 9) n w1 →
 CallsS Tryd.prog 11
 #[Value.agg
 #[Value.string (ByteArray.mk #[98]),
 Value.string (ByteArray.mk #[99, 111, 109, 112, 46, 42, 44, 64, 42, 46, 98, 105, 110]),
 Value.int IntKind.i64 1000, Value.int IntKind.i64 10, Value.slice (some (Addr.mk n 0 none)) 1 1]]
 w1 fun (e : Ending) (w' : World) =>
 ∃ (x : Option Addr),
 ∃ (x_1 : Int),
 e = Ending.returned (Value.tuple #[Value.pointer x, Value.int IntKind.i64 x_1]) ∧
 ∀ (n : Nat) (w1 : World),
 NewB w' (Obj.cells #[Value.string (ByteArray.mk #[99, 111, 109, 112, 46, 111, 115])] 9) n w1 →
 ∀ (n_1 : Nat) (w1_1 : World),
 NewB w1
 (Obj.cells
 #[Value.int IntKind.u8 0, Value.int IntKind.u8 0, Value.int IntKind.u8 0, Value.int IntKind.u8 0,
 Value.int IntKind.u8 0, Value.int IntKind.u8 0, Value.int IntKind.u8 0, Value.int IntKind.u8 0,
 Value.int IntKind.u8 0, Value.int IntKind.u8 0, Value.int IntKind.u8 0, Value.int IntKind.u8 0,
 Value.int IntKind.u8 0, Value.int IntKind.u8 0, Value.int IntKind.u8 0, Value.int IntKind.u8 0,
 Value.int IntKind.u8 0, Value.int IntKind.u8 0, Value.int IntKind.u8 0, Value.int IntKind.u8 0,
 Value.int IntKind.u8 0, Value.int IntKind.u8 0, Value.int IntKind.u8 0, Value.int IntKind.u8 0,
 Value.int IntKind.u8 0, Value.int IntKind.u8 0, Value.int IntKind.u8 0, Value.int IntKind.u8 0,
 Value.int IntKind.u8 0, Value.int IntKind.u8 0, Value.int IntKind.u8 0, Value.int IntKind.u8 0,
 Value.slice none 0 0, Value.string (ByteArray.mk #[]), Value.int IntKind.i64 0, Value.bool false,
 Value.string (ByteArray.mk #[]), Value.int IntKind.i64 0]
 39)
 n_1 w1_1 →
 WrL w1_1 n_1 0 38 ∧
 ∀ (w1 : World),
 PutB w1_1 n_1 0
 [Value.int IntKind.u8 0, Value.int IntKind.u8 0, Value.int IntKind.u8 0, Value.int IntKind.u8 0,
 Value.int IntKind.u8 0, Value.int IntKind.u8 0, Value.int IntKind.u8 0, Value.int IntKind.u8 0,
 Value.int IntKind.u8 0, Value.int IntKind.u8 0, Value.int IntKind.u8 0, Value.int IntKind.u8 0,
 Value.int IntKind.u8 0, Value.int IntKind.u8 0, Value.int IntKind.u8 0, Value.int IntKind.u8 0,
 Value.int IntKind.u8 0, Value.int IntKind.u8 0, Value.int IntKind.u8 0, Value.int IntKind.u8 0,
 Value.int IntKind.u8 0, Value.int IntKind.u8 0, Value.int IntKind.u8 0, Value.int IntKind.u8 0,
 Value.int IntKind.u8 0, Value.int IntKind.u8 0, Value.int IntKind.u8 0, Value.int IntKind.u8 0,
 Value.int IntKind.u8 0, Value.int IntKind.u8 0, Value.int IntKind.u8 0, Value.int IntKind.u8 0,
 Value.slice (some (Addr.mk n 0 none)) 1 1, Value.string (ByteArray.mk #[]), Value.int IntKind.i64 1000,
 Value.bool false, Value.string (ByteArray.mk #[99]), Value.int IntKind.i64 5]
 w1 →
 ∃ (f : Nat → Int),
 ∃ (p : Option Addr),
 ∃ (n : Nat),
 ∃ (c : Nat),
 ∃ (x_2 : ByteArray),
 ∃ (x_3 : Int),
 ∃ (x_4 : Bool),
 ∃ (x_5 : ByteArray),
 ∃ (x_6 : Int),
 AtL w1 n_1 0
 (arrI IntKind.u8 f 32 0 ++ [Value.slice p n c, Value.string x_2,
 Value.int IntKind.i64 x_3, Value.bool x_4, Value.string x_5, Value.int IntKind.i64 x_6]) ∧
 CallsS Tryd.prog 16
 #[Value.pointer x,
 Value.agg
 (arrI IntKind.u8 f 32 0 ++ [Value.slice p n c,
 Value.string x_2, Value.int IntKind.i64 x_3, Value.bool x_4, Value.string x_5,
 Value.int IntKind.i64 x_6]).toArray]
 w1 fun (e : Ending) (w' : World) =>
 ∃ (x_7 : Int),
 ∃ (x_8 : Bool),
 e = Ending.returned (Value.tuple #[Value.int IntKind.i64 x_7, Value.bool x_8]) ∧
 ∃ (f : Nat → Int),
 ∃ (p : Option Addr),
 ∃ (n : Nat),
 ∃ (c : Nat),
 ∃ (x_9 : ByteArray),
 ∃ (x_10 : Int),
 ∃ (x_11 : Bool),
 ∃ (x_12 : ByteArray),
 ∃ (x_13 : Int),
 (∀ (w'_1 : World),
 K0 w'.drew w'_1 →
 AtL w'_1 n_1 0
 (arrI IntKind.u8 f 32 0 ++ [Value.slice p n c,
 Value.string x_9, Value.int IntKind.i64 x_10, Value.bool x_11,
 Value.string x_12, Value.int IntKind.i64 x_13])) ∧
 ∃ (f_1 : Nat → Int),
 ∃ (p_1 : Option Addr),
 ∃ (n_2 : Nat),
 ∃ (c_1 : Nat),
 ∃ (x_14 : ByteArray),
 ∃ (x_15 : Int),
 ∃ (x_16 : Bool),
 ∃ (x_17 : ByteArray),
 ∃ (x_18 : Int),
 (∀ (w'_1 : World),
 K0 w'.drew w'_1 →
 AtL w'_1 n_1 0
 (arrI IntKind.u8 f_1 32 0 ++ [Value.slice p_1 n_2 c_1, Value.string x_14,
 Value.int IntKind.i64 x_15, Value.bool x_16, Value.string x_17,
 Value.int IntKind.i64 x_18])) ∧
 ∃ (f_2 : Nat → Int),
 ∃ (p_2 : Option Addr),
 ∃ (n_3 : Nat),
 ∃ (c_2 : Nat),
 ∃ (x_19 : ByteArray),
 ∃ (x_20 : Int),
 ∃ (x_21 : Bool),
 ∃ (x_22 : ByteArray),
 ∃ (x_23 : Int),
 (∀ (w'_1 : World),
 K0 w'.drew w'_1 →
 AtL w'_1 n_1 0
 (arrI IntKind.u8 f_2 32 0 ++ [Value.slice p_2 n_3 c_2,
 Value.string x_19, Value.int IntKind.i64 x_20,
 Value.bool x_21, Value.string x_22,
 Value.int IntKind.i64 x_23])) ∧
 ∃ (f_3 : Nat → Int),
 ∃ (p_3 : Option Addr),
 ∃ (n_4 : Nat),
 ∃ (c_3 : Nat),
 ∃ (x_24 : ByteArray),
 ∃ (x_25 : Int),
 ∃ (x_26 : Bool),
 ∃ (x_27 : ByteArray),
 ∃ (x_28 : Int),
 (∀ (w'_1 : World),
 K0 w'.drew w'_1 →
 AtL w'_1 n_1 0
 (arrI IntKind.u8 f_3 32 0 ++ [Value.slice p_3 n_4 c_3, Value.string x_24,
 Value.int IntKind.i64 x_25, Value.bool x_26,
 Value.string x_27, Value.int IntKind.i64 x_28])) ∧
 ∃ (f_4 : Nat → Int),
 ∃ (p_4 : Option Addr),
 ∃ (n_5 : Nat),
 ∃ (c_4 : Nat),
 ∃ (x_29 : ByteArray),
 ∃ (x_30 : Int),
 ∃ (x_31 : Bool),
 ∃ (x_32 : ByteArray),
 ∃ (x_33 : Int),
 (∀ (w'_1 : World),
 K0 w'.drew w'_1 →
 AtL w'_1 n_1 0
 (arrI IntKind.u8 f_4 32 0 ++ [Value.slice p_4 n_5 c_4,
 Value.string x_29,
 Value.int IntKind.i64 x_30,
 Value.bool x_31, Value.string x_32,
 Value.int IntKind.i64 x_33])) ∧
 (∀ (n : Nat),
 some
 (Next.value
 (Value.pointer
 (some (Addr.mk n 0 none)))) =
 some
 (Next.value
 (Value.pointer
 (some (Addr.mk n 0 none))))) ∧
 (∀ (n : Nat),
 Value.pointer
 (some (Addr.mk n 0 none)) =
 Value.pointer
 (some (Addr.mk n 0 none))) ∧
 (∀ (n : Nat),
 some
 (Next.value
 (Value.pointer
 (some (Addr.mk n 0 none)))) =
 some
 (Next.value
 (Value.pointer
 (some (Addr.mk n 0 none))))) ∧
 (∀ (n : Nat),
 Value.pointer
 (some (Addr.mk n 0 none)) =
 Value.pointer
 (some (Addr.mk n 0 none))) ∧
 (∀ (n : Nat),
 some
 (Next.value
 (Value.pointer
 (some (Addr.mk n 0 none)))) =
 some
 (Next.value
 (Value.pointer
 (some (Addr.mk n 0 none))))) ∧
 (∀ (n : Nat),
 Value.pointer
 (some (Addr.mk n 0 none)) =
 Value.pointer
 (some (Addr.mk n 0 none))) ∧
 (∀ (n : Nat),
 some
 (Next.value
 (Value.pointer
 (some (Addr.mk n 0 none)))) =
 some
 (Next.value
 (Value.pointer
 (some (Addr.mk n 0 none))))) ∧
 (∀ (n : Nat),
 Value.pointer
 (some (Addr.mk n 0 none)) =
 Value.pointer
 (some (Addr.mk n 0 none))) ∧
 (∀ (n : Nat),
 some
 (Next.value
 (Value.pointer
 (some (Addr.mk n 0 none)))) =
 some
 (Next.value
 (Value.pointer
 (some
 (Addr.mk n 0 none))))) ∧
 (∀ (n : Nat),
 Value.pointer
 (some (Addr.mk n 0 none)) =
 Value.pointer
 (some (Addr.mk n 0 none))) ∧
 ∀ (n_6 n_7 n_8 n_9 n_10 : Nat)
 (w1 : World),
 Boxes w'.drew
 [(n_10,
 Obj.cells
 (arrI IntKind.u8 f_4 32 0 ++ [Value.slice p_4 n_5 c_4,
 Value.string x_29,
 Value.int IntKind.i64
 x_30,
 Value.bool x_31,
 Value.string x_32,
 Value.int IntKind.i64
 x_33]).toArray
 39),
 (n_9,
 Obj.cells
 (arrI IntKind.u8 f_3 32 0 ++ [Value.slice p_3 n_4 c_3,
 Value.string x_24,
 Value.int IntKind.i64
 x_25,
 Value.bool x_26,
 Value.string x_27,
 Value.int IntKind.i64
 x_28]).toArray
 39),
 (n_8,
 Obj.cells
 (arrI IntKind.u8 f_2 32 0 ++ [Value.slice p_2 n_3 c_2,
 Value.string x_19,
 Value.int IntKind.i64
 x_20,
 Value.bool x_21,
 Value.string x_22,
 Value.int IntKind.i64
 x_23]).toArray
 39),
 (n_7,
 Obj.cells
 (arrI IntKind.u8 f_1 32 0 ++ [Value.slice p_1 n_2 c_1,
 Value.string x_14,
 Value.int IntKind.i64
 x_15,
 Value.bool x_16,
 Value.string x_17,
 Value.int IntKind.i64
 x_18]).toArray
 39),
 (n_6,
 Obj.cells
 (arrI IntKind.u8 f 32 0 ++ [Value.slice p n c,
 Value.string x_9,
 Value.int IntKind.i64
 x_10,
 Value.bool x_11,
 Value.string x_12,
 Value.int IntKind.i64
 x_13]).toArray
 39)]
 w1 →
 ((∃ (u : Value),
 w1.cell?
 (Addr.mk n_6 (0 + 36)
 none) =
 some u) ∧
 w1.frozen?
 (Addr.mk n_6 (0 + 36)
 none) =
 false) ∧
 ∀ (w1_2 : World),
 PutB w1 n_6 (0 + 36)
 [Value.string
 (ByteArray.mk #[98])]
 w1_2 →
 ∀ (n : Nat) (w1 : World),
 NewB w1_2
 (Obj.cells
 #[Value.string
 (ByteArray.mk
 #[99, 111, 109, 112,
 46, 111, 115]),
 Value.string
 (ByteArray.mk
 #[99, 111, 109, 112,
 46, 98, 105, 110])]
 9)
 n w1 →
 ((∃ (u : Value),
 w1.cell?
 (Addr.mk n_7 (0 + 32)
 none) =
 some u) ∧
 w1.frozen?
 (Addr.mk n_7 (0 + 32)
 none) =
 false) ∧
 ∀ (w1_3 : World),
 PutB w1 n_7 (0 + 32)
 [Value.slice
 (some
 (Addr.mk n 0 none))
 2 2]
 w1_3 →
 ((∃ (u : Value),
 w1_3.cell?
 (Addr.mk n_8
 (0 + 34) none) =
 some u) ∧
 w1_3.frozen?
 (Addr.mk n_8
 (0 + 34) none) =
 false) ∧
 ∀ (w1 : World),
 PutB w1_3 n_8
 (0 + 34)
 [Value.int
 IntKind.i64 1001]
 w1 →
 ((∃ (u : Value),
 w1.cell?
 (Addr.mk n_9
 (0 + 33)
 none) =
 some u) ∧
 w1.frozen?
 (Addr.mk n_9
 (0 + 33)
 none) =
 false) ∧
 ∀ (w1_4 : World),
 PutB w1 n_9
 (0 + 33)
 [Value.string
 (ByteArray.mk
 #[108, 111,
 99, 97,
 108])]
 w1_4 →
 ∀ (n : Nat)
 (w1 : World),
 NewB w1_4
 (Obj.cells
 #[Value.string
 (ByteArray.mk
 #[99, 111,
 109, 112,
 46, 98,
 105,
 110])]
 9)
 n w1 →
 ((∃ (u :
 Value),
 w1.cell?
 (Addr.mk
 n_10
 (0 + 32)
 none) =
 some u) ∧
 w1.frozen?
 (Addr.mk
 n_10
 (0 + 32)
 none) =
 false) ∧
 ∀
 (w1_5 :
 World),
 PutB w1 n_10
 (0 + 32)
 [Value.slice
 (some
 (Addr.mk
 n 0
 none))
 1 1]
 w1_5 →
 ((∃ (u :
 Value),
 w1_5.cell?
 (Addr.mk
 n_10
 (0 +
 34)
 none) =
 some
 u) ∧
 w1_5.frozen?
 (Addr.mk
 n_10
 (0 +
 34)
 none) =
 false) ∧
 ∀
 (w1 :
 World),
 PutB w1_5
 n_10
 (0 + 34)
 [Value.int
 IntKind.i64
 5000]
 w1 →
 ((∃ (u :
 Value),
 w1.cell?
 (Addr.mk
 n_10
 (0 +
 35)
 none) =
 some
 u) ∧
 w1.frozen?
 (Addr.mk
 n_10
 (0 +
 35)
 none) =
 false) ∧
 ∀
 (w1_6 :
 World),
 PutB w1
 n_10
 (0 +
 35)
 [Value.bool
 true]
 w1_6 →
 CallsS
 Tryd.prog
 19
 #[Value.int
 IntKind.i64
 100]
 w1_6
 fun
 (e :
 Ending)
 (w' :
 World) =>
 ∃
 (x_34
 :
 Option
 Addr),
 ∃
 (x_35
 :
 Int),
 e =
 Ending.returned
 (Value.tuple
 #[Value.pointer
 x_34,
 Value.int
 IntKind.i64
 x_35]) ∧
 CallsS
 Tryd.prog
 21
 #[Value.pointer
 x_34,
 Value.int
 IntKind.i64
 60,
 Value.int
 IntKind.i64
 0]
 w'
 fun
 (e :
 Ending)
 (w' :
 World) =>
 ∃
 (x_36
 :
 Int),
 e =
 Ending.returned
 (Value.int
 IntKind.i64
 x_36) ∧
 CallsS
 Tryd.prog
 21
 #[Value.pointer
 x_34,
 Value.int
 IntKind.i64
 41,
 Value.int
 IntKind.i64
 1439]
 w'
 fun
 (e :
 Ending)
 (w' :
 World) =>
 ∃
 (x_37
 :
 Int),
 e =
 Ending.returned
 (Value.int
 IntKind.i64
 x_37) ∧
 CallsS
 Tryd.prog
 21
 #[Value.pointer
 x_34,
 Value.int
 IntKind.i64
 41,
 Value.int
 IntKind.i64
 1440]
 w'
 fun
 (e :
 Ending)
 (w' :
 World) =>
 ∃
 (x_38
 :
 Int),
 e =
 Ending.returned
 (Value.int
 IntKind.i64
 x_38) ∧
 ∃
 (f
 :
 Nat →
 Int),
 ∃
 (p
 :
 Option
 Addr),
 ∃
 (n
 :
 Nat),
 ∃
 (c
 :
 Nat),
 ∃
 (x_39
 :
 ByteArray),
 ∃
 (x_40
 :
 Int),
 ∃
 (x_41
 :
 Bool),
 ∃
 (x_42
 :
 ByteArray),
 ∃
 (x_43
 :
 Int),
 gimp
 (x_1 ==
 0 &&
 x_7 ==
 15 &&
 x_8)
 (AtL
 w'
 n_1
 0
 (arrI IntKind.u8 f 32 0 ++ [Value.slice
 p
 n
 c,
 Value.string
 x_39,
 Value.int
 IntKind.i64
 x_40,
 Value.bool
 x_41,
 Value.string
 x_42,
 Value.int
 IntKind.i64
 x_43])) ∧
 bsp
 (x_1 ==
 0 &&
 x_7 ==
 15 &&
 x_8)
 (CallsS
 Tryd.prog
 17
 #[Value.pointer
 x,
 Value.agg
 (arrI IntKind.u8 f 32 0 ++ [Value.slice
 p
 n
 c,
 Value.string
 x_39,
 Value.int
 IntKind.i64
 x_40,
 Value.bool
 x_41,
 Value.string
 x_42,
 Value.int
 IntKind.i64
 x_43]).toArray]
 w'
 fun
 (e :
 Ending)
 (w' :
 World) =>
 ∃
 (x_44
 :
 Int),
 e =
 Ending.returned
 (Value.int
 IntKind.i64
 x_44) ∧
 ∃
 (f
 :
 Nat →
 Int),
 ∃
 (p
 :
 Option
 Addr),
 ∃
 (n
 :
 Nat),
 ∃
 (c
 :
 Nat),
 ∃
 (x_45
 :
 ByteArray),
 ∃
 (x_46
 :
 Int),
 ∃
 (x_47
 :
 Bool),
 ∃
 (x_48
 :
 ByteArray),
 ∃
 (x_49
 :
 Int),
 gimp
 (true &&
 x_44 ==
 0)
 (AtL
 w'
 n_6
 0
 (arrI IntKind.u8 f 32 0 ++ [Value.slice
 p
 n
 c,
 Value.string
 x_45,
 Value.int
 IntKind.i64
 x_46,
 Value.bool
 x_47,
 Value.string
 x_48,
 Value.int
 IntKind.i64
 x_49])) ∧
 bsp
 (true &&
 x_44 ==
 0)
 (CallsS
 Tryd.prog
 17
 #[Value.pointer
 x,
 Value.agg
 (arrI IntKind.u8 f 32 0 ++ [Value.slice
 p
 n
 c,
 Value.string
 x_45,
 Value.int
 IntKind.i64
 x_46,
 Value.bool
 x_47,
 Value.string
 x_48,
 Value.int
 IntKind.i64
 x_49]).toArray]
 w'
 fun
 (e :
 Ending)
 (w' :
 World) =>
 ∃
 (x_50
 :
 Int),
 e =
 Ending.returned
 (Value.int
 IntKind.i64
 x_50) ∧
 ∃
 (f
 :
 Nat →
 Int),
 ∃
 (p
 :
 Option
 Addr),
 ∃
 (n
 :
 Nat),
 ∃
 (c
 :
 Nat),
 ∃
 (x_51
 :
 ByteArray),
 ∃
 (x_52
 :
 Int),
 ∃
 (x_53
 :
 Bool),
 ∃
 (x_54
 :
 ByteArray),
 ∃
 (x_55
 :
 Int),
 gimp
 (true &&
 x_50 ==
 1)
 (AtL
 w'
 n_7
 0
 (arrI IntKind.u8 f 32 0 ++ [Value.slice
 p
 n
 c,
 Value.string
 x_51,
 Value.int
 IntKind.i64
 x_52,
 Value.bool
 x_53,
 Value.string
 x_54,
 Value.int
 IntKind.i64
 x_55])) ∧
 bsp
 (true &&
 x_50 ==
 1)
 (CallsS
 Tryd.prog
 17
 #[Value.pointer
 x,
 Value.agg
 (arrI IntKind.u8 f 32 0 ++ [Value.slice
 p
 n
 c,
 Value.string
 x_51,
 Value.int
 IntKind.i64
 x_52,
 Value.bool
 x_53,
 Value.string
 x_54,
 Value.int
 IntKind.i64
 x_55]).toArray]
 w'
 fun
 (e :
 Ending)
 (w' :
 World) =>
 ∃
 (x_56
 :
 Int),
 e =
 Ending.returned
 (Value.int
 IntKind.i64
 x_56) ∧
 ∃
 (f
 :
 Nat →
 Int),
 ∃
 (p
 :
 Option
 Addr),
 ∃
 (n
 :
 Nat),
 ∃
 (c
 :
 Nat),
 ∃
 (x_57
 :
 ByteArray),
 ∃
 (x_58
 :
 Int),
 ∃
 (x_59
 :
 Bool),
 ∃
 (x_60
 :
 ByteArray),
 ∃
 (x_61
 :
 Int),
 gimp
 (true &&
 x_56 ==
 2)
 (AtL
 w'
 n_8
 0
 (arrI IntKind.u8 f 32 0 ++ [Value.slice
 p
 n
 c,
 Value.string
 x_57,
 Value.int
 IntKind.i64
 x_58,
 Value.bool
 x_59,
 Value.string
 x_60,
 Value.int
 IntKind.i64
 x_61])) ∧
 bsp
 (true &&
 x_56 ==
 2)
 (CallsS
 Tryd.prog
 17
 #[Value.pointer
 x,
 Value.agg
 (arrI IntKind.u8 f 32 0 ++ [Value.slice
 p
 n
 c,
 Value.string
 x_57,
 Value.int
 IntKind.i64
 x_58,
 Value.bool
 x_59,
 Value.string
 x_60,
 Value.int
 IntKind.i64
 x_61]).toArray]
 w'
 fun
 (e :
 Ending)
 (w' :
 World) =>
 ∃
 (x_62
 :
 Int),
 e =
 Ending.returned
 (Value.int
 IntKind.i64
 x_62) ∧
 ∃
 (f
 :
 Nat →
 Int),
 ∃
 (p
 :
 Option
 Addr),
 ∃
 (n
 :
 Nat),
 ∃
 (c
 :
 Nat),
 ∃
 (x_63
 :
 ByteArray),
 ∃
 (x_64
 :
 Int),
 ∃
 (x_65
 :
 Bool),
 ∃
 (x_66
 :
 ByteArray),
 ∃
 (x_67
 :
 Int),
 gimp
 (true &&
 x_62 ==
 3)
 (AtL
 w'
 n_9
 0
 (arrI IntKind.u8 f 32 0 ++ [Value.slice
 p
 n
 c,
 Value.string
 x_63,
 Value.int
 IntKind.i64
 x_64,
 Value.bool
 x_65,
 Value.string
 x_66,
 Value.int
 IntKind.i64
 x_67])) ∧
 bsp
 (true &&
 x_62 ==
 3)
 (CallsS
 Tryd.prog
 17
 #[Value.pointer
 x,
 Value.agg
 (arrI IntKind.u8 f 32 0 ++ [Value.slice
 p
 n
 c,
 Value.string
 x_63,
 Value.int
 IntKind.i64
 x_64,
 Value.bool
 x_65,
 Value.string
 x_66,
 Value.int
 IntKind.i64
 x_67]).toArray]
 w'
 fun
 (e :
 Ending)
 (w' :
 World) =>
 ∃
 (x_68
 :
 Int),
 e =
 Ending.returned
 (Value.int
 IntKind.i64
 x_68) ∧
 ∃
 (f
 :
 Nat →
 Int),
 ∃
 (p
 :
 Option
 Addr),
 ∃
 (n
 :
 Nat),
 ∃
 (c
 :
 Nat),
 ∃
 (x_69
 :
 ByteArray),
 ∃
 (x_70
 :
 Int),
 ∃
 (x_71
 :
 Bool),
 ∃
 (x_72
 :
 ByteArray),
 ∃
 (x_73
 :
 Int),
 gimp
 (true &&
 x_68 ==
 4)
 (AtL
 w'
 n_10
 0
 (arrI IntKind.u8 f 32 0 ++ [Value.slice
 p
 n
 c,
 Value.string
 x_69,
 Value.int
 IntKind.i64
 x_70,
 Value.bool
 x_71,
 Value.string
 x_72,
 Value.int
 IntKind.i64
 x_73])) ∧
 bsp
 (true &&
 x_68 ==
 4)
 (CallsS
 Tryd.prog
 17
 #[Value.pointer
 x,
 Value.agg
 (arrI IntKind.u8 f 32 0 ++ [Value.slice
 p
 n
 c,
 Value.string
 x_69,
 Value.int
 IntKind.i64
 x_70,
 Value.bool
 x_71,
 Value.string
 x_72,
 Value.int
 IntKind.i64
 x_73]).toArray]
 w'
 fun
 (e :
 Ending)
 (w' :
 World) =>
 ∃
 (x
 :
 Int),
 e =
 Ending.returned
 (Value.int
 IntKind.i64
 x) ∧
 bsp
 (true &&
 x ==
 0 &&
 x_35 ==
 0 &&
 x_36 ==
 0 &&
 x_37 ==
 9 &&
 x_38 ==
 0)
 (CallsS
 Tryd.prog
 22
 #[Value.pointer
 x_34,
 Value.int
 IntKind.i64
 1440]
 w'
 fun
 (e :
 Ending)
 (w' :
 World) =>
 ∃
 (x
 :
 Int),
 e =
 Ending.returned
 (Value.int
 IntKind.i64
 x) ∧
 R
 (Ending.returned
 (Value.bool
 (true &&
 x ==
 59)))
 w')
 (R
 (Ending.returned
 (Value.bool
 false))
 w'))
 (R
 (Ending.returned
 (Value.bool
 false))
 w'))
 (∃
 (f
 :
 Nat →
 Int),
 ∃
 (p
 :
 Option
 Addr),
 ∃
 (n
 :
 Nat),
 ∃
 (c
 :
 Nat),
 ∃
 (x
 :
 ByteArray),
 ∃
 (x
 :
 Int),
 ∃
 (x
 :
 Bool),
 ∃
 (x
 :
 ByteArray),
 ∃
 (x
 :
 Int),
 True ∧
 R
 (Ending.returned
 (Value.bool
 false))
 w'))
 (∃
 (f
 :
 Nat →
 Int),
 ∃
 (p
 :
 Option
 Addr),
 ∃
 (n
 :
 Nat),
 ∃
 (c
 :
 Nat),
 ∃
 (x
 :
 ByteArray),
 ∃
 (x
 :
 Int),
 ∃
 (x
 :
 Bool),
 ∃
 (x
 :
 ByteArray),
 ∃
 (x
 :
 Int),
 True ∧
 ∃
 (f
 :
 Nat →
 Int),
 ∃
 (p
 :
 Option
 Addr),
 ∃
 (n
 :
 Nat),
 ∃
 (c
 :
 Nat),
 ∃
 (x
 :
 ByteArray),
 ∃
 (x
 :
 Int),
 ∃
 (x
 :
 Bool),
 ∃
 (x
 :
 ByteArray),
 ∃
 (x
 :
 Int),
 True ∧
 R
 (Ending.returned
 (Value.bool
 false))
 w'))
 (∃
 (f
 :
 Nat →
 Int),
 ∃
 (p
 :
 Option
 Addr),
 ∃
 (n
 :
 Nat),
 ∃
 (c
 :
 Nat),
 ∃
 (x
 :
 ByteArray),
 ∃
 (x
 :
 Int),
 ∃
 (x
 :
 Bool),
 ∃
 (x
 :
 ByteArray),
 ∃
 (x
 :
 Int),
 True ∧
 ∃
 (f
 :
 Nat →
 Int),
 ∃
 (p
 :
 Option
 Addr),
 ∃
 (n
 :
 Nat),
 ∃
 (c
 :
 Nat),
 ∃
 (x
 :
 ByteArray),
 ∃
 (x
 :
 Int),
 ∃
 (x
 :
 Bool),
 ∃
 (x
 :
 ByteArray),
 ∃
 (x
 :
 Int),
 True ∧
 ∃
 (f
 :
 Nat →
 Int),
 ∃
 (p
 :
 Option
 Addr),
 ∃
 (n
 :
 Nat),
 ∃
 (c
 :
 Nat),
 ∃
 (x
 :
 ByteArray),
 ∃
 (x
 :
 Int),
 ∃
 (x
 :
 Bool),
 ∃
 (x
 :
 ByteArray),
 ∃
 (x
 :
 Int),
 True ∧
 R
 (Ending.returned
 (Value.bool
 false))
 w'))
 (∃
 (f
 :
 Nat →
 Int),
 ∃
 (p
 :
 Option
 Addr),
 ∃
 (n
 :
 Nat),
 ∃
 (c
 :
 Nat),
 ∃
 (x
 :
 ByteArray),
 ∃
 (x
 :
 Int),
 ∃
 (x
 :
 Bool),
 ∃
 (x
 :
 ByteArray),
 ∃
 (x
 :
 Int),
 True ∧
 ∃
 (f
 :
 Nat →
 Int),
 ∃
 (p
 :
 Option
 Addr),
 ∃
 (n
 :
 Nat),
 ∃
 (c
 :
 Nat),
 ∃
 (x
 :
 ByteArray),
 ∃
 (x
 :
 Int),
 ∃
 (x
 :
 Bool),
 ∃
 (x
 :
 ByteArray),
 ∃
 (x
 :
 Int),
 True ∧
 ∃
 (f
 :
 Nat →
 Int),
 ∃
 (p
 :
 Option
 Addr),
 ∃
 (n
 :
 Nat),
 ∃
 (c
 :
 Nat),
 ∃
 (x
 :
 ByteArray),
 ∃
 (x
 :
 Int),
 ∃
 (x
 :
 Bool),
 ∃
 (x
 :
 ByteArray),
 ∃
 (x
 :
 Int),
 True ∧
 ∃
 (f
 :
 Nat →
 Int),
 ∃
 (p
 :
 Option
 Addr),
 ∃
 (n
 :
 Nat),
 ∃
 (c
 :
 Nat),
 ∃
 (x
 :
 ByteArray),
 ∃
 (x
 :
 Int),
 ∃
 (x
 :
 Bool),
 ∃
 (x
 :
 ByteArray),
 ∃
 (x
 :
 Int),
 True ∧
 R
 (Ending.returned
 (Value.bool
 false))
 w'))
 (∃
 (f
 :
 Nat →
 Int),
 ∃
 (p
 :
 Option
 Addr),
 ∃
 (n
 :
 Nat),
 ∃
 (c
 :
 Nat),
 ∃
 (x
 :
 ByteArray),
 ∃
 (x
 :
 Int),
 ∃
 (x
 :
 Bool),
 ∃
 (x
 :
 ByteArray),
 ∃
 (x
 :
 Int),
 True ∧
 ∃
 (f
 :
 Nat →
 Int),
 ∃
 (p
 :
 Option
 Addr),
 ∃
 (n
 :
 Nat),
 ∃
 (c
 :
 Nat),
 ∃
 (x
 :
 ByteArray),
 ∃
 (x
 :
 Int),
 ∃
 (x
 :
 Bool),
 ∃
 (x
 :
 ByteArray),
 ∃
 (x
 :
 Int),
 True ∧
 ∃
 (f
 :
 Nat →
 Int),
 ∃
 (p
 :
 Option
 Addr),
 ∃
 (n
 :
 Nat),
 ∃
 (c
 :
 Nat),
 ∃
 (x
 :
 ByteArray),
 ∃
 (x
 :
 Int),
 ∃
 (x
 :
 Bool),
 ∃
 (x
 :
 ByteArray),
 ∃
 (x
 :
 Int),
 True ∧
 ∃
 (f
 :
 Nat →
 Int),
 ∃
 (p
 :
 Option
 Addr),
 ∃
 (n
 :
 Nat),
 ∃
 (c
 :
 Nat),
 ∃
 (x
 :
 ByteArray),
 ∃
 (x
 :
 Int),
 ∃
 (x
 :
 Bool),
 ∃
 (x
 :
 ByteArray),
 ∃
 (x
 :
 Int),
 True ∧
 ∃
 (f
 :
 Nat →
 Int),
 ∃
 (p
 :
 Option
 Addr),
 ∃
 (n
 :
 Nat),
 ∃
 (c
 :
 Nat),
 ∃
 (x
 :
 ByteArray),
 ∃
 (x
 :
 Int),
 ∃
 (x
 :
 Bool),
 ∃
 (x
 :
 ByteArray),
 ∃
 (x
 :
 Int),
 True ∧
 R
 (Ending.returned
 (Value.bool
 false))
 w')
theorem vc_known (w : World) (R : Ending → World → Prop) (h : VC_known w R) : Calls Tryd.prog 12 ([] : List Value).toArray w R := by
  have e : execR { P := Tryd.prog, loops := [], pur := pur1, tails := [(4, 5)], joins := [], boxes := [(4, ())] } Tryd.f12.results.toList R (Tryd.f12.body.getD .skip) (initF [] (Tryd.f12.ntmps - ([] : List Value).length)) w = VC_known w R := by kernel_rfl
  have hb : Tryd.f12.body = some (Tryd.f12.body.getD .skip) := by kernel_rfl
  exact calls_of_exec' (P := Tryd.prog) (fn := Tryd.f12) (c := Tryd.f12.body.getD .skip) (args := []) (w := w) (R := R) pur1_ok Tryd.func12 hb e h

end Go.Proofs.YtcpjajjocmpkjaaDoor
