/- The formulas of functions by the symbolic evaluator, and that each gives the call's contract. Written by a program (gen.py). No condition. -/
import Derived.Test.YtkkfnlehlkiejaaGreatDoorProg
import Derived.Test.YtkkfnlehlkiejaaGreatDoorZ02
import Derived.Test.YtkkfnlehlkiejaaGreatDoorZ03
import Derived.Test.YtkkfnlehlkiejaaGreatDoorZ05
import Derived.KernelRfl
import Derived.Test.YtkkfnlehlkiejaaGreatDoorZ11
namespace Go.Proofs.YtkkfnlehlkiejaaGreatDoor
set_option maxRecDepth 100000
set_option linter.unusedVariables false

def VC_lrclones (ap : Option Addr) (an : Nat) (ac : Nat) (op : Option Addr) (on : Nat) (oc : Nat) (id : Nat → Int) (au : Nat → Int) (g : ByteArray) (v : Int) (rm : Bool) (md : Bool) (p : Option Addr) (n : Nat) (c : Nat) (t : ByteArray) (s : ByteArray) (w : World) (R : Ending → World → Prop) : Prop :=
 ∀ (n_1 n_2 : Nat) (W : World),
 Loc w.heap.size
 [Blk.mk n_2 50
 (arrI IntKind.u8 id 32 0 ++ (arrI IntKind.u8 au 16 0 ++ [Value.string g,
 Value.int IntKind.i64 v, Value.bool rm, Value.bool md, Value.slice p n c, Value.string t]))
 2,
 Blk.mk n_1 42 [Value.slice ap an ac, Value.slice op on oc] 2]
 w W →
 CallsS Tryz.prog 18 #[Value.agg #[Value.slice ap an ac, Value.slice op on oc]] W fun (e : Ending) (w' : World) =>
 ∃ (x : Option Addr),
 ∃ (p_1 : Option Addr),
 ∃ (n_3 : Nat),
 ∃ (c_1 : Nat),
 ∃ (p_2 : Option Addr),
 ∃ (n_4 : Nat),
 ∃ (c_2 : Nat),
 ∃ (x_1 : Bool),
 e =
 Ending.returned
 (Value.tuple
 #[Value.pointer x, Value.agg #[Value.slice p_1 n_3 c_1, Value.slice p_2 n_4 c_2], Value.bool x_1]) ∧
 KeptL [n_2, n_1] W w' ∧
 ∀ (n_5 : Nat) (W : World),
 Loc w.heap.size
 [Blk.mk n_5 33 [Value.slice p_1 n_3 c_1, Value.slice p_2 n_4 c_2] (wrM 2),
 Blk.mk n_2 50
 (arrI IntKind.u8 id 32 0 ++ (arrI IntKind.u8 au 16 0 ++ [Value.string g, Value.int IntKind.i64 v, Value.bool rm, Value.bool md, Value.slice p n c,
 Value.string t]))
 0,
 Blk.mk n_1 42 [Value.slice ap an ac, Value.slice op on oc] 0]
 w' W →
 bsp (!(!x_1 || x.isNone))
 (CallsS Tryz.prog 15 #[] W fun (e : Ending) (w' : World) =>
 ∃ (x_2 : Bool),
 e = Ending.returned (Value.bool x_2) ∧
 KeptL [n_5, n_2, n_1] W w' ∧
 bsp (false || !x_2)
 (bsp x_1
 (CallsS Tryz.prog 15 #[] w' fun (e : Ending) (w'_1 : World) =>
 ∃ (x : Bool),
 e = Ending.returned (Value.bool x) ∧
 KeptL [n_5, n_2, n_1] w' w'_1 ∧ R (Ending.returned (Value.bool (true && x))) w'_1)
 (KeptL [n_5, n_2, n_1] w' w' ∧ R (Ending.returned (Value.bool false)) w'))
 (CallsS Tryz.prog 42 #[Value.pointer x] w' fun (e : Ending) (w'_1 : World) =>
 ∃ (x_3 : Option Addr),
 e = Ending.returned (Value.pointer x_3) ∧
 KeptL [n_5, n_2, n_1] w' w'_1 ∧
 CallsS Tryz.prog 31 #[Value.pointer x, Value.string s] w'_1 fun (e : Ending) (w' : World) =>
 ∃ (p_3 : Option Addr),
 ∃ (n_6 : Nat),
 ∃ (c_3 : Nat),
 e = Ending.returned (Value.slice p_3 n_6 c_3) ∧
 KeptL [n_5, n_2, n_1] w'_1 w' ∧
 ∃ (I : List Value → World → Prop),
 ∃ (m : List Value → World → Nat),
 I [Value.int IntKind.i64 0] w' ∧
 ∀ (x_4 : Int) (w' : World),
 I [Value.int IntKind.i64 x_4] w' →
 Loc w.heap.size
 [Blk.mk n_5 33 [Value.slice p_1 n_3 c_1, Value.slice p_2 n_4 c_2] 0,
 Blk.mk n_2 50
 (arrI IntKind.u8 id 32 0 ++ (arrI IntKind.u8 au 16 0 ++ [Value.string g,
 Value.int IntKind.i64 v, Value.bool rm, Value.bool md, Value.slice p n c,
 Value.string t]))
 0,
 Blk.mk n_1 42 [Value.slice ap an ac, Value.slice op on oc] 0]
 w' w' →
 bsp (decide (x_4 < (↑n_6 : Int)))
 (∃ (I_1 : List Value → World → Prop),
 ∃ (m_1 : List Value → World → Nat),
 I_1 [Value.int IntKind.i64 0] w' ∧
 ∀ (x : Int) (w'_2 : World),
 I_1 [Value.int IntKind.i64 x] w'_2 →
 Loc w.heap.size
 [Blk.mk n_5 33 [Value.slice p_1 n_3 c_1, Value.slice p_2 n_4 c_2] 0,
 Blk.mk n_2 50
 (arrI IntKind.u8 id 32 0 ++ (arrI IntKind.u8 au 16 0 ++ [Value.string g, Value.int IntKind.i64 v, Value.bool rm, Value.bool md,
 Value.slice p n c, Value.string t]))
 0,
 Blk.mk n_1 42 [Value.slice ap an ac, Value.slice op on oc] 0]
 w'_2 w'_2 →
 nn true p_3 fun (b o : Nat) =>
 (0 ≤ x_4 ∧ x_4 < (↑n_6 : Int)) ∧
 ∃ (p : Option Addr),
 ∃ (n : Nat),
 ∃ (c : Nat),
 w'_2.cell? (Addr.mk b (o + x_4.toNat * 54 + 52) none) =
 some (Value.slice p n c) ∧
 bsp (decide (x < (↑n : Int)))
 (nn true p_3 fun (b o : Nat) =>
 (0 ≤ x_4 ∧ x_4 < (↑n_6 : Int)) ∧
 ∃ (p : Option Addr),
 ∃ (n : Nat),
 ∃ (c : Nat),
 w'_2.cell? (Addr.mk b (o + x_4.toNat * 54 + 52) none) =
 some (Value.slice p n c) ∧
 nn true p fun (b o : Nat) =>
 (0 ≤ x ∧ x < (↑n : Int)) ∧
 WrL w'_2 b (o + x.toNat * 16) 16 ∧
 ∀ (w1 : World),
 PutB w'_2 b (o + x.toNat * 16)
 [Value.int IntKind.u8 255, Value.int IntKind.u8 0,
 Value.int IntKind.u8 0, Value.int IntKind.u8 0,
 Value.int IntKind.u8 0, Value.int IntKind.u8 0,
 Value.int IntKind.u8 0, Value.int IntKind.u8 0,
 Value.int IntKind.u8 0, Value.int IntKind.u8 0,
 Value.int IntKind.u8 0, Value.int IntKind.u8 0,
 Value.int IntKind.u8 0, Value.int IntKind.u8 0,
 Value.int IntKind.u8 0, Value.int IntKind.u8 0]
 w1 →
 KeptL [n_5, n_2, n_1] w'_2 w1 ∧
 I_1 [Value.int IntKind.i64 (IntKind.i64.wrap (x + 1))]
 w1 ∧
 m_1 [Value.int IntKind.i64 (IntKind.i64.wrap (x + 1))]
 w1 <
 m_1 [Value.int IntKind.i64 x] w'_2)
 (nn true p_3 fun (b o : Nat) =>
 (0 ≤ x_4 ∧ x_4 < (↑n_6 : Int)) ∧
 ((∃ (u : Value),
 w'_2.cell? (Addr.mk b (o + x_4.toNat * 54 + 49) none) =
 some u) ∧
 w'_2.frozen? (Addr.mk b (o + x_4.toNat * 54 + 49) none) =
 false) ∧
 ∀ (w1 : World),
 PutB w'_2 b (o + x_4.toNat * 54 + 49)
 [Value.int IntKind.i64 (-1)] w1 →
 KeptL [n_5, n_2, n_1] w'_2 w1 ∧
 I [Value.int IntKind.i64 (IntKind.i64.wrap (x_4 + 1))] w1 ∧
 m [Value.int IntKind.i64 (IntKind.i64.wrap (x_4 + 1))] w1 <
 m [Value.int IntKind.i64 x_4] w'))
 (bsp (!x_3.isNone)
 (CallsS Tryz.prog 41 #[Value.pointer x_3, Value.pointer x] w'
 fun (e : Ending) (w'_2 : World) =>
 ∃ (x_5 : Bool),
 e = Ending.returned (Value.bool x_5) ∧
 KeptL [n_5, n_2, n_1] w' w'_2 ∧
 bsp (false || !x_5) (R (Ending.returned (Value.bool false)) w'_2)
 (CallsS Tryz.prog 23
 #[Value.agg
 (arrI IntKind.u8 id 32 0 ++ (arrI IntKind.u8 au 16 0 ++ [Value.string g, Value.int IntKind.i64 v, Value.bool rm, Value.bool md,
 Value.slice p n c, Value.string t])).toArray]
 w'_2 fun (e : Ending) (w' : World) =>
 ∃ (f : Nat → Int),
 ∃ (f_1 : Nat → Int),
 ∃ (x_6 : ByteArray),
 ∃ (x_7 : Int),
 ∃ (x_8 : Bool),
 ∃ (x_9 : Bool),
 ∃ (p_4 : Option Addr),
 ∃ (n_7 : Nat),
 ∃ (c_4 : Nat),
 ∃ (x_10 : ByteArray),
 e =
 Ending.returned
 (Value.agg
 (arrI IntKind.u8 f 32 0 ++ (arrI IntKind.u8 f_1 16 0 ++ [Value.string x_6,
 Value.int IntKind.i64 x_7, Value.bool x_8, Value.bool x_9,
 Value.slice p_4 n_7 c_4, Value.string x_10])).toArray) ∧
 KeptL [n_5, n_2, n_1] w'_2 w' ∧
 ∀ (n_8 : Nat) (W : World),
 Loc w.heap.size
 [Blk.mk n_8 56
 (arrI IntKind.u8 f 32 0 ++ (arrI IntKind.u8 f_1 16 0 ++ [Value.string x_6,
 Value.int IntKind.i64 x_7, Value.bool x_8,
 Value.bool x_9, Value.slice p_4 n_7 c_4,
 Value.string x_10]))
 (wrM 2),
 Blk.mk n_5 33
 [Value.slice p_1 n_3 c_1, Value.slice p_2 n_4 c_2] 0,
 Blk.mk n_2 50
 (arrI IntKind.u8 id 32 0 ++ (arrI IntKind.u8 au 16 0 ++ [Value.string g,
 Value.int IntKind.i64 v, Value.bool rm, Value.bool md,
 Value.slice p n c, Value.string t]))
 0,
 Blk.mk n_1 42 [Value.slice ap an ac, Value.slice op on oc]
 0]
 w' W →
 CallsS Tryz.prog 22
 #[Value.pointer x_3,
 Value.agg
 (arrI IntKind.u8 f 32 0 ++ (arrI IntKind.u8 f_1 16 0 ++ [Value.string x_6,
 Value.int IntKind.i64 x_7, Value.bool x_8,
 Value.bool x_9, Value.slice p_4 n_7 c_4,
 Value.string x_10])).toArray]
 W fun (e : Ending) (w' : World) =>
 ∃ (x_11 : Int),
 e = Ending.returned (Value.int IntKind.i64 x_11) ∧
 KeptL [n_8, n_5, n_2, n_1] W w' ∧
 ∃ (I : List Value → World → Prop),
 ∃ (m : List Value → World → Nat),
 I [Value.int IntKind.i64 0] w' ∧
 ∀ (x_12 : Int) (w' : World),
 I [Value.int IntKind.i64 x_12] w' →
 Loc w.heap.size
 [Blk.mk n_8 56
 (arrI IntKind.u8 f 32 0 ++ (arrI IntKind.u8 f_1 16 0 ++ [Value.string x_6, Value.int IntKind.i64 x_7,
 Value.bool x_8, Value.bool x_9,
 Value.slice p_4 n_7 c_4, Value.string x_10]))
 0,
 Blk.mk n_5 33
 [Value.slice p_1 n_3 c_1,
 Value.slice p_2 n_4 c_2]
 0,
 Blk.mk n_2 50
 (arrI IntKind.u8 id 32 0 ++ (arrI IntKind.u8 au 16 0 ++ [Value.string g,
 Value.int IntKind.i64 v, Value.bool rm,
 Value.bool md, Value.slice p n c,
 Value.string t]))
 0,
 Blk.mk n_1 42
 [Value.slice ap an ac, Value.slice op on oc] 0]
 w' w' →
 bsp (decide (x_12 < (↑n_7 : Int)))
 (nn true p_4 fun (b o : Nat) =>
 (0 ≤ x_12 ∧ x_12 < (↑n_7 : Int)) ∧
 WrL w' b (o + x_12.toNat * 16) 16 ∧
 ∀ (w1 : World),
 PutB w' b (o + x_12.toNat * 16)
 [Value.int IntKind.u8 254,
 Value.int IntKind.u8 0,
 Value.int IntKind.u8 0,
 Value.int IntKind.u8 0,
 Value.int IntKind.u8 0,
 Value.int IntKind.u8 0,
 Value.int IntKind.u8 0,
 Value.int IntKind.u8 0,
 Value.int IntKind.u8 0,
 Value.int IntKind.u8 0,
 Value.int IntKind.u8 0,
 Value.int IntKind.u8 0,
 Value.int IntKind.u8 0,
 Value.int IntKind.u8 0,
 Value.int IntKind.u8 0,
 Value.int IntKind.u8 0]
 w1 →
 KeptL [n_8, n_5, n_2, n_1] w' w1 ∧
 I
 [Value.int IntKind.i64
 (IntKind.i64.wrap (x_12 + 1))]
 w1 ∧
 m
 [Value.int IntKind.i64
 (IntKind.i64.wrap (x_12 + 1))]
 w1 <
 m [Value.int IntKind.i64 x_12] w')
 (CallsS Tryz.prog 41
 #[Value.pointer x_3, Value.pointer x] w'
 fun (e : Ending) (w'_3 : World) =>
 ∃ (x_13 : Bool),
 e = Ending.returned (Value.bool x_13) ∧
 KeptL [n_8, n_5, n_2, n_1] w' w'_3 ∧
 bsp (!x_13 == !x_11 == 0)
 (R (Ending.returned (Value.bool false)) w'_3)
 (bsp (x_11 == 0)
 (CallsS Tryz.prog 31
 #[Value.pointer x_3, Value.string x_6] w'_3
 fun (e : Ending) (w' : World) =>
 ∃ (p_5 : Option Addr),
 ∃ (n_9 : Nat),
 ∃ (c_5 : Nat),
 e =
 Ending.returned
 (Value.slice p_5 n_9 c_5) ∧
 KeptL [n_8, n_5, n_2, n_1] w'_3 w' ∧
 ∃ (I : List Value → World → Prop),
 ∃ (m : List Value → World → Nat),
 I
 [Value.int IntKind.i64 0,
 Value.bool false]
 w' ∧
 ∀ (x_14 : Int) (x_15 : Bool)
 (w' : World),
 I
 [Value.int IntKind.i64 x_14,
 Value.bool x_15]
 w' →
 Loc w.heap.size
 [Blk.mk n_8 56
 (arrI IntKind.u8 f 32 0 ++ (arrI IntKind.u8 f_1 16 0 ++ [Value.string x_6,
 Value.int IntKind.i64 x_7,
 Value.bool x_8,
 Value.bool x_9,
 Value.slice p_4 n_7 c_4,
 Value.string x_10]))
 0,
 Blk.mk n_5 33
 [Value.slice p_1 n_3 c_1,
 Value.slice p_2 n_4 c_2]
 0,
 Blk.mk n_2 50
 (arrI IntKind.u8 id 32 0 ++ (arrI IntKind.u8 au 16 0 ++ [Value.string g,
 Value.int IntKind.i64 v,
 Value.bool rm,
 Value.bool md,
 Value.slice p n c,
 Value.string t]))
 0,
 Blk.mk n_1 42
 [Value.slice ap an ac,
 Value.slice op on oc]
 0]
 w' w' →
 bsp
 (decide (x_14 < (↑n_9 : Int)))
 (∀ (W : World),
 Loc w.heap.size
 [Blk.mk n_8 56
 (arrI IntKind.u8 f 32 0 ++ (arrI IntKind.u8 f_1 16 0 ++ [Value.string x_6,
 Value.int IntKind.i64
 x_7,
 Value.bool x_8,
 Value.bool x_9,
 Value.slice p_4 n_7 c_4,
 Value.string x_10]))
 0,
 Blk.mk n_5 33
 [Value.slice p_1 n_3 c_1,
 Value.slice p_2 n_4 c_2]
 0,
 Blk.mk n_2 50
 (arrI IntKind.u8 id 32 0 ++ (arrI IntKind.u8 au 16 0 ++ [Value.string g,
 Value.int IntKind.i64 v,
 Value.bool rm,
 Value.bool md,
 Value.slice p n c,
 Value.string t]))
 0,
 Blk.mk n_1 42
 [Value.slice ap an ac,
 Value.slice op on oc]
 0]
 w' W →
 ∃ (S : World → Prop),
 S W ∧
 nn (!x_15) p_5
 fun (b o : Nat) =>
 gimp (!x_15)
 (0 ≤ x_14 ∧
 x_14 < (↑n_9 : Int)) ∧
 ∃ (f : Nat → Int),
 ∃ (f_2 : Nat → Int),
 ∃ (x : ByteArray),
 ∃ (x_16 : Int),
 ∃ (x_17 : Bool),
 ∃ (x_18 : Bool),
 ∃ (p :
 Option Addr),
 ∃ (n : Nat),
 ∃ (c : Nat),
 ∃ (x_19 :
 ByteArray),
 gimp (!x_15)
 (∀
 (w' :
 World),
 S w' →
 AtL w' b
 (o +
 x_14.toNat *
 54)
 (arrI IntKind.u8 f 32 0 ++ (arrI IntKind.u8 f_2 16 0 ++ [Value.string
 x,
 Value.int
 IntKind.i64
 x_16,
 Value.bool
 x_17,
 Value.bool
 x_18,
 Value.slice
 p n c,
 Value.string
 x_19]))) ∧
 ∃ (f_3 :
 Nat → Int),
 ∃ (f_4 :
 Nat → Int),
 ∃ (x_20 :
 ByteArray),
 ∃ (x_21 :
 Int),
 ∃ (x_22 :
 Bool),
 ∃ (x_23 :
 Bool),
 ∃ (p_6 :
 Option
 Addr),
 ∃ (n_10
 :
 Nat),
 ∃ (c_6
 :
 Nat),
 ∃
 (x_24
 :
 ByteArray),
 gimp
 (!x_15)
 (∀
 (w' :
 World),
 S
 w' →
 AtL
 w'
 n_2
 0
 (arrI IntKind.u8 f_3 32 0 ++ (arrI IntKind.u8 f_4 16 0 ++ [Value.string
 x_20,
 Value.int
 IntKind.i64
 x_21,
 Value.bool
 x_22,
 Value.bool
 x_23,
 Value.slice
 p_6
 n_10
 c_6,
 Value.string
 x_24]))) ∧
 bsp
 (!x_15)
 (CallsS
 Tryz.prog
 26
 #[Value.agg
 (arrI IntKind.u8 f 32 0 ++ (arrI IntKind.u8 f_2 16 0 ++ [Value.string
 x,
 Value.int
 IntKind.i64
 x_16,
 Value.bool
 x_17,
 Value.bool
 x_18,
 Value.slice
 p
 n
 c,
 Value.string
 x_19])).toArray]
 W
 fun
 (e :
 Ending)
 (w'_4 :
 World) =>
 ∃
 (f
 :
 Nat →
 Int),
 ∃
 (f_5
 :
 Nat →
 Int),
 ∃
 (x
 :
 ByteArray),
 ∃
 (x_25
 :
 Int),
 ∃
 (x_26
 :
 Bool),
 ∃
 (x_27
 :
 Bool),
 ∃
 (p
 :
 Option
 Addr),
 ∃
 (n
 :
 Nat),
 ∃
 (c
 :
 Nat),
 ∃
 (x_28
 :
 ByteArray),
 e =
 Ending.returned
 (Value.agg
 (arrI IntKind.u8 f 32 0 ++ (arrI IntKind.u8 f_5 16 0 ++ [Value.string
 x,
 Value.int
 IntKind.i64
 x_25,
 Value.bool
 x_26,
 Value.bool
 x_27,
 Value.slice
 p
 n
 c,
 Value.string
 x_28])).toArray) ∧
 S
 w'_4 ∧
 CallsS
 Tryz.prog
 23
 #[Value.agg
 (arrI IntKind.u8 f_3 32 0 ++ (arrI IntKind.u8 f_4 16 0 ++ [Value.string
 x_20,
 Value.int
 IntKind.i64
 x_21,
 Value.bool
 x_22,
 Value.bool
 x_23,
 Value.slice
 p_6
 n_10
 c_6,
 Value.string
 x_24])).toArray]
 w'_4
 fun
 (e :
 Ending)
 (w'_5 :
 World) =>
 ∃
 (f_6
 :
 Nat →
 Int),
 ∃
 (f_7
 :
 Nat →
 Int),
 ∃
 (x_29
 :
 ByteArray),
 ∃
 (x_30
 :
 Int),
 ∃
 (x_31
 :
 Bool),
 ∃
 (x_32
 :
 Bool),
 ∃
 (p_7
 :
 Option
 Addr),
 ∃
 (n_11
 :
 Nat),
 ∃
 (c_7
 :
 Nat),
 ∃
 (x_33
 :
 ByteArray),
 e =
 Ending.returned
 (Value.agg
 (arrI IntKind.u8 f_6 32 0 ++ (arrI IntKind.u8 f_7 16 0 ++ [Value.string
 x_29,
 Value.int
 IntKind.i64
 x_30,
 Value.bool
 x_31,
 Value.bool
 x_32,
 Value.slice
 p_7
 n_11
 c_7,
 Value.string
 x_33])).toArray) ∧
 CallsS
 Tryz.prog
 26
 #[Value.agg
 (arrI IntKind.u8 f_6 32 0 ++ (arrI IntKind.u8 f_7 16 0 ++ [Value.string
 x_29,
 Value.int
 IntKind.i64
 x_30,
 Value.bool
 x_31,
 Value.bool
 x_32,
 Value.slice
 p_7
 n_11
 c_7,
 Value.string
 x_33])).toArray]
 w'_5
 fun
 (e :
 Ending)
 (w'_6 :
 World) =>
 ∃
 (f_8
 :
 Nat →
 Int),
 ∃
 (f_9
 :
 Nat →
 Int),
 ∃
 (x_34
 :
 ByteArray),
 ∃
 (x_35
 :
 Int),
 ∃
 (x_36
 :
 Bool),
 ∃
 (x_37
 :
 Bool),
 ∃
 (p_8
 :
 Option
 Addr),
 ∃
 (n_12
 :
 Nat),
 ∃
 (c_8
 :
 Nat),
 ∃
 (x_38
 :
 ByteArray),
 e =
 Ending.returned
 (Value.agg
 (arrI IntKind.u8 f_8 32 0 ++ (arrI IntKind.u8 f_9 16 0 ++ [Value.string
 x_34,
 Value.int
 IntKind.i64
 x_35,
 Value.bool
 x_36,
 Value.bool
 x_37,
 Value.slice
 p_8
 n_12
 c_8,
 Value.string
 x_38])).toArray) ∧
 CallsS
 Tryz.prog
 28
 #[Value.agg
 (arrI IntKind.u8 f 32 0 ++ (arrI IntKind.u8 f_5 16 0 ++ [Value.string
 x,
 Value.int
 IntKind.i64
 x_25,
 Value.bool
 x_26,
 Value.bool
 x_27,
 Value.slice
 p
 n
 c,
 Value.string
 x_28])).toArray,
 Value.agg
 (arrI IntKind.u8 f_8 32 0 ++ (arrI IntKind.u8 f_9 16 0 ++ [Value.string
 x_34,
 Value.int
 IntKind.i64
 x_35,
 Value.bool
 x_36,
 Value.bool
 x_37,
 Value.slice
 p_8
 n_12
 c_8,
 Value.string
 x_38])).toArray]
 w'_6
 fun
 (e :
 Ending)
 (w'_7 :
 World) =>
 ∃
 (x
 :
 Bool),
 e =
 Ending.returned
 (Value.bool
 x) ∧
 KeptL
 [n_8,
 n_5,
 n_2,
 n_1]
 W
 w'_7 ∧
 I
 [Value.int
 IntKind.i64
 (IntKind.i64.wrap
 (x_14 +
 1)),
 Value.bool
 (false ||
 x)]
 w'_7 ∧
 m
 [Value.int
 IntKind.i64
 (IntKind.i64.wrap
 (x_14 +
 1)),
 Value.bool
 (false ||
 x)]
 w'_7 <
 m
 [Value.int
 IntKind.i64
 x_14,
 Value.bool
 x_15]
 w')
 (S
 W ∧
 KeptL
 [n_8,
 n_5,
 n_2,
 n_1]
 W
 W ∧
 I
 [Value.int
 IntKind.i64
 (IntKind.i64.wrap
 (x_14 +
 1)),
 Value.bool
 true]
 W ∧
 m
 [Value.int
 IntKind.i64
 (IntKind.i64.wrap
 (x_14 +
 1)),
 Value.bool
 true]
 W <
 m
 [Value.int
 IntKind.i64
 x_14,
 Value.bool
 x_15]
 w'))
 (bsp (!x_15)
 (R
 (Ending.returned
 (Value.bool false))
 w')
 (CallsS Tryz.prog 29
 #[Value.pointer none,
 Value.string s]
 w'
 fun (e : Ending)
 (w'_4 : World) =>
 ∃ (f_2 : Nat → Int),
 ∃ (f_3 : Nat → Int),
 ∃ (x_16 : ByteArray),
 ∃ (x_17 : Int),
 ∃ (x_18 : Bool),
 ∃ (x_19 : Bool),
 ∃ (p_6 : Option Addr),
 ∃ (n_10 : Nat),
 ∃ (c_6 : Nat),
 ∃ (x_20 :
 ByteArray),
 ∃ (x_21 : Bool),
 e =
 Ending.returned
 (Value.tuple
 #[Value.agg
 (arrI IntKind.u8 f_2 32 0 ++ (arrI IntKind.u8 f_3 16 0 ++ [Value.string
 x_16,
 Value.int
 IntKind.i64
 x_17,
 Value.bool
 x_18,
 Value.bool
 x_19,
 Value.slice
 p_6 n_10
 c_6,
 Value.string
 x_20])).toArray,
 Value.bool
 x_21]) ∧
 KeptL
 [n_8, n_5, n_2,
 n_1]
 w' w'_4 ∧
 ∀ (n_11 : Nat)
 (W : World),
 Loc w.heap.size
 [Blk.mk n_11
 56
 (arrI IntKind.u8 f_2 32 0 ++ (arrI IntKind.u8 f_3 16 0 ++ [Value.string
 x_16,
 Value.int
 IntKind.i64
 x_17,
 Value.bool
 x_18,
 Value.bool
 x_19,
 Value.slice
 p_6 n_10
 c_6,
 Value.string
 x_20]))
 (wrM 2),
 Blk.mk n_8
 56
 (arrI IntKind.u8 f 32 0 ++ (arrI IntKind.u8 f_1 16 0 ++ [Value.string
 x_6,
 Value.int
 IntKind.i64
 x_7,
 Value.bool
 x_8,
 Value.bool
 x_9,
 Value.slice
 p_4 n_7
 c_4,
 Value.string
 x_10]))
 0,
 Blk.mk n_5
 33
 [Value.slice
 p_1 n_3
 c_1,
 Value.slice
 p_2 n_4
 c_2]
 0,
 Blk.mk n_2
 50
 (arrI IntKind.u8 id 32 0 ++ (arrI IntKind.u8 au 16 0 ++ [Value.string
 g,
 Value.int
 IntKind.i64
 v,
 Value.bool
 rm,
 Value.bool
 md,
 Value.slice
 p n c,
 Value.string
 t]))
 0,
 Blk.mk n_1
 42
 [Value.slice
 ap an ac,
 Value.slice
 op on oc]
 0]
 w'_4 W →
 CallsS
 Tryz.prog 22
 #[Value.pointer
 none,
 Value.agg
 (arrI IntKind.u8 f 32 0 ++ (arrI IntKind.u8 f_1 16 0 ++ [Value.string
 x_6,
 Value.int
 IntKind.i64
 x_7,
 Value.bool
 x_8,
 Value.bool
 x_9,
 Value.slice
 p_4 n_7
 c_4,
 Value.string
 x_10])).toArray]
 W
 fun
 (e : Ending)
 (w' :
 World) =>
 ∃ (x_22 :
 Int),
 e =
 Ending.returned
 (Value.int
 IntKind.i64
 x_22) ∧
 KeptL
 [n_11,
 n_8,
 n_5,
 n_2,
 n_1]
 W w' ∧
 ∃ (f :
 Nat →
 Int),
 gimp
 (x_22 ==
 1)
 (AtL w'
 n_2 0
 (arrI IntKind.u8 f 32 0)) ∧
 bsp
 (x_22 ==
 1)
 (CallsS
 Tryz.prog
 43
 #[Value.pointer
 none,
 Value.agg
 (arrI IntKind.u8 f 32 0).toArray]
 w'
 fun
 (e :
 Ending)
 (w'_5 :
 World) =>
 ∃
 (x_23
 :
 Int),
 e =
 Ending.returned
 (Value.int
 IntKind.i64
 x_23) ∧
 KeptL
 [n_11,
 n_8,
 n_5,
 n_2,
 n_1]
 w'
 w'_5 ∧
 bsp
 (true &&
 x_23 ==
 1 &&
 !x_21)
 (CallsS
 Tryz.prog
 32
 #[Value.pointer
 none,
 Value.string
 s]
 w'_5
 fun
 (e :
 Ending)
 (w' :
 World) =>
 ∃
 (x_24
 :
 Bool),
 e =
 Ending.returned
 (Value.bool
 x_24) ∧
 KeptL
 [n_11,
 n_8,
 n_5,
 n_2,
 n_1]
 w'_5
 w' ∧
 ∃
 (f
 :
 Nat →
 Int),
 gimp
 (true &&
 !x_24)
 (AtL
 w'
 n_2
 (0 +
 32)
 (arrI IntKind.u8 f 16 0)) ∧
 bsp
 (true &&
 !x_24)
 (CallsS
 Tryz.prog
 20
 #[Value.pointer
 none,
 Value.string
 s,
 Value.agg
 (arrI IntKind.u8 f 16 0).toArray]
 w'
 fun
 (e :
 Ending)
 (w'_6 :
 World) =>
 ∃
 (x_25
 :
 Bool),
 e =
 Ending.returned
 (Value.bool
 x_25) ∧
 KeptL
 [n_11,
 n_8,
 n_5,
 n_2,
 n_1]
 w'
 w'_6 ∧
 ∃
 (f
 :
 Nat →
 Int),
 gimp
 (true &&
 !x_25)
 (AtL
 w'_6
 n_2
 (0 +
 32)
 (arrI IntKind.u8 f 16 0)) ∧
 bsp
 (true &&
 !x_25)
 (CallsS
 Tryz.prog
 16
 #[Value.pointer
 none,
 Value.string
 s,
 Value.agg
 (arrI IntKind.u8 f 16 0).toArray]
 w'_6
 fun
 (e :
 Ending)
 (w' :
 World) =>
 ∃
 (x_26
 :
 Bool),
 e =
 Ending.returned
 (Value.bool
 x_26) ∧
 KeptL
 [n_11,
 n_8,
 n_5,
 n_2,
 n_1]
 w'_6
 w' ∧
 bsp
 (true &&
 !x_26)
 (CallsS
 Tryz.prog
 37
 #[Value.pointer
 none]
 w'
 fun
 (e :
 Ending)
 (w'_7 :
 World) =>
 ∃
 (p
 :
 Option
 Addr),
 ∃
 (n
 :
 Nat),
 ∃
 (c
 :
 Nat),
 e =
 Ending.returned
 (Value.slice
 p
 n
 c) ∧
 KeptL
 [n_11,
 n_8,
 n_5,
 n_2,
 n_1]
 w'
 w'_7 ∧
 bsp
 (true &&
 (↑n :
 Int) ==
 0)
 (CallsS
 Tryz.prog
 39
 #[Value.pointer
 none,
 Value.pointer
 none]
 w'_7
 fun
 (e :
 Ending)
 (w' :
 World) =>
 ∃
 (p
 :
 Option
 Addr),
 ∃
 (n
 :
 Nat),
 ∃
 (c
 :
 Nat),
 e =
 Ending.returned
 (Value.slice
 p
 n
 c) ∧
 KeptL
 [n_11,
 n_8,
 n_5,
 n_2,
 n_1]
 w'_7
 w' ∧
 bsp
 (true &&
 (↑n :
 Int) ==
 0)
 (CallsS
 Tryz.prog
 31
 #[Value.pointer
 none,
 Value.string
 s]
 w'
 fun
 (e :
 Ending)
 (w'_8 :
 World) =>
 ∃
 (p
 :
 Option
 Addr),
 ∃
 (n
 :
 Nat),
 ∃
 (c
 :
 Nat),
 e =
 Ending.returned
 (Value.slice
 p
 n
 c) ∧
 KeptL
 [n_11,
 n_8,
 n_5,
 n_2,
 n_1]
 w'
 w'_8 ∧
 bsp
 (true &&
 (↑n :
 Int) ==
 0)
 (CallsS
 Tryz.prog
 19
 #[Value.pointer
 none]
 w'_8
 fun
 (e :
 Ending)
 (w' :
 World) =>
 ∃
 (x_27
 :
 Int),
 e =
 Ending.returned
 (Value.int
 IntKind.i64
 x_27) ∧
 KeptL
 [n_11,
 n_8,
 n_5,
 n_2,
 n_1]
 w'_8
 w' ∧
 bsp
 (true &&
 x_27 ==
 0)
 (CallsS
 Tryz.prog
 42
 #[Value.pointer
 none]
 w'
 fun
 (e :
 Ending)
 (w'_9 :
 World) =>
 ∃
 (x_28
 :
 Option
 Addr),
 e =
 Ending.returned
 (Value.pointer
 x_28) ∧
 KeptL
 [n_11,
 n_8,
 n_5,
 n_2,
 n_1]
 w'
 w'_9 ∧
 bsp
 (true &&
 x_28.isNone)
 (CallsS
 Tryz.prog
 41
 #[Value.pointer
 none,
 Value.pointer
 none]
 w'_9
 fun
 (e :
 Ending)
 (w' :
 World) =>
 ∃
 (x_29
 :
 Bool),
 e =
 Ending.returned
 (Value.bool
 x_29) ∧
 KeptL
 [n_11,
 n_8,
 n_5,
 n_2,
 n_1]
 w'_9
 w' ∧
 bsp
 (true &&
 x_29)
 (CallsS
 Tryz.prog
 41
 #[Value.pointer
 x,
 Value.pointer
 none]
 w'
 fun
 (e :
 Ending)
 (w'_10 :
 World) =>
 ∃
 (x
 :
 Bool),
 e =
 Ending.returned
 (Value.bool
 x) ∧
 KeptL
 [n_11,
 n_8,
 n_5,
 n_2,
 n_1]
 w'
 w'_10 ∧
 R
 (Ending.returned
 (Value.bool
 (true &&
 !x)))
 w'_10)
 (KeptL
 [n_11,
 n_8,
 n_5,
 n_2,
 n_1]
 w'
 w' ∧
 R
 (Ending.returned
 (Value.bool
 false))
 w'))
 (KeptL
 [n_11,
 n_8,
 n_5,
 n_2,
 n_1]
 w'_9
 w'_9 ∧
 KeptL
 [n_11,
 n_8,
 n_5,
 n_2,
 n_1]
 w'_9
 w'_9 ∧
 R
 (Ending.returned
 (Value.bool
 false))
 w'_9))
 (KeptL
 [n_11,
 n_8,
 n_5,
 n_2,
 n_1]
 w'
 w' ∧
 KeptL
 [n_11,
 n_8,
 n_5,
 n_2,
 n_1]
 w'
 w' ∧
 KeptL
 [n_11,
 n_8,
 n_5,
 n_2,
 n_1]
 w'
 w' ∧
 R
 (Ending.returned
 (Value.bool
 false))
 w'))
 (KeptL
 [n_11,
 n_8,
 n_5,
 n_2,
 n_1]
 w'_8
 w'_8 ∧
 KeptL
 [n_11,
 n_8,
 n_5,
 n_2,
 n_1]
 w'_8
 w'_8 ∧
 KeptL
 [n_11,
 n_8,
 n_5,
 n_2,
 n_1]
 w'_8
 w'_8 ∧
 KeptL
 [n_11,
 n_8,
 n_5,
 n_2,
 n_1]
 w'_8
 w'_8 ∧
 R
 (Ending.returned
 (Value.bool
 false))
 w'_8))
 (KeptL
 [n_11,
 n_8,
 n_5,
 n_2,
 n_1]
 w'
 w' ∧
 KeptL
 [n_11,
 n_8,
 n_5,
 n_2,
 n_1]
 w'
 w' ∧
 KeptL
 [n_11,
 n_8,
 n_5,
 n_2,
 n_1]
 w'
 w' ∧
 KeptL
 [n_11,
 n_8,
 n_5,
 n_2,
 n_1]
 w'
 w' ∧
 KeptL
 [n_11,
 n_8,
 n_5,
 n_2,
 n_1]
 w'
 w' ∧
 R
 (Ending.returned
 (Value.bool
 false))
 w'))
 (KeptL
 [n_11,
 n_8,
 n_5,
 n_2,
 n_1]
 w'_7
 w'_7 ∧
 KeptL
 [n_11,
 n_8,
 n_5,
 n_2,
 n_1]
 w'_7
 w'_7 ∧
 KeptL
 [n_11,
 n_8,
 n_5,
 n_2,
 n_1]
 w'_7
 w'_7 ∧
 KeptL
 [n_11,
 n_8,
 n_5,
 n_2,
 n_1]
 w'_7
 w'_7 ∧
 KeptL
 [n_11,
 n_8,
 n_5,
 n_2,
 n_1]
 w'_7
 w'_7 ∧
 KeptL
 [n_11,
 n_8,
 n_5,
 n_2,
 n_1]
 w'_7
 w'_7 ∧
 R
 (Ending.returned
 (Value.bool
 false))
 w'_7))
 (KeptL
 [n_11,
 n_8,
 n_5,
 n_2,
 n_1]
 w'
 w' ∧
 KeptL
 [n_11,
 n_8,
 n_5,
 n_2,
 n_1]
 w'
 w' ∧
 KeptL
 [n_11,
 n_8,
 n_5,
 n_2,
 n_1]
 w'
 w' ∧
 KeptL
 [n_11,
 n_8,
 n_5,
 n_2,
 n_1]
 w'
 w' ∧
 KeptL
 [n_11,
 n_8,
 n_5,
 n_2,
 n_1]
 w'
 w' ∧
 KeptL
 [n_11,
 n_8,
 n_5,
 n_2,
 n_1]
 w'
 w' ∧
 KeptL
 [n_11,
 n_8,
 n_5,
 n_2,
 n_1]
 w'
 w' ∧
 R
 (Ending.returned
 (Value.bool
 false))
 w'))
 (KeptL
 [n_11,
 n_8,
 n_5,
 n_2,
 n_1]
 w'_6
 w'_6 ∧
 KeptL
 [n_11,
 n_8,
 n_5,
 n_2,
 n_1]
 w'_6
 w'_6 ∧
 KeptL
 [n_11,
 n_8,
 n_5,
 n_2,
 n_1]
 w'_6
 w'_6 ∧
 KeptL
 [n_11,
 n_8,
 n_5,
 n_2,
 n_1]
 w'_6
 w'_6 ∧
 KeptL
 [n_11,
 n_8,
 n_5,
 n_2,
 n_1]
 w'_6
 w'_6 ∧
 KeptL
 [n_11,
 n_8,
 n_5,
 n_2,
 n_1]
 w'_6
 w'_6 ∧
 KeptL
 [n_11,
 n_8,
 n_5,
 n_2,
 n_1]
 w'_6
 w'_6 ∧
 KeptL
 [n_11,
 n_8,
 n_5,
 n_2,
 n_1]
 w'_6
 w'_6 ∧
 R
 (Ending.returned
 (Value.bool
 false))
 w'_6))
 (KeptL
 [n_11,
 n_8,
 n_5,
 n_2,
 n_1]
 w'
 w' ∧
 ∃
 (f
 :
 Nat →
 Int),
 True ∧
 KeptL
 [n_11,
 n_8,
 n_5,
 n_2,
 n_1]
 w'
 w' ∧
 KeptL
 [n_11,
 n_8,
 n_5,
 n_2,
 n_1]
 w'
 w' ∧
 KeptL
 [n_11,
 n_8,
 n_5,
 n_2,
 n_1]
 w'
 w' ∧
 KeptL
 [n_11,
 n_8,
 n_5,
 n_2,
 n_1]
 w'
 w' ∧
 KeptL
 [n_11,
 n_8,
 n_5,
 n_2,
 n_1]
 w'
 w' ∧
 KeptL
 [n_11,
 n_8,
 n_5,
 n_2,
 n_1]
 w'
 w' ∧
 KeptL
 [n_11,
 n_8,
 n_5,
 n_2,
 n_1]
 w'
 w' ∧
 KeptL
 [n_11,
 n_8,
 n_5,
 n_2,
 n_1]
 w'
 w' ∧
 R
 (Ending.returned
 (Value.bool
 false))
 w'))
 (KeptL
 [n_11,
 n_8,
 n_5,
 n_2,
 n_1]
 w'_5
 w'_5 ∧
 ∃
 (f
 :
 Nat →
 Int),
 True ∧
 KeptL
 [n_11,
 n_8,
 n_5,
 n_2,
 n_1]
 w'_5
 w'_5 ∧
 ∃
 (f
 :
 Nat →
 Int),
 True ∧
 KeptL
 [n_11,
 n_8,
 n_5,
 n_2,
 n_1]
 w'_5
 w'_5 ∧
 KeptL
 [n_11,
 n_8,
 n_5,
 n_2,
 n_1]
 w'_5
 w'_5 ∧
 KeptL
 [n_11,
 n_8,
 n_5,
 n_2,
 n_1]
 w'_5
 w'_5 ∧
 KeptL
 [n_11,
 n_8,
 n_5,
 n_2,
 n_1]
 w'_5
 w'_5 ∧
 KeptL
 [n_11,
 n_8,
 n_5,
 n_2,
 n_1]
 w'_5
 w'_5 ∧
 KeptL
 [n_11,
 n_8,
 n_5,
 n_2,
 n_1]
 w'_5
 w'_5 ∧
 KeptL
 [n_11,
 n_8,
 n_5,
 n_2,
 n_1]
 w'_5
 w'_5 ∧
 KeptL
 [n_11,
 n_8,
 n_5,
 n_2,
 n_1]
 w'_5
 w'_5 ∧
 R
 (Ending.returned
 (Value.bool
 false))
 w'_5))
 (KeptL
 [n_11,
 n_8,
 n_5,
 n_2,
 n_1]
 w'
 w' ∧
 KeptL
 [n_11,
 n_8,
 n_5,
 n_2,
 n_1]
 w'
 w' ∧
 ∃ (f
 :
 Nat →
 Int),
 True ∧
 KeptL
 [n_11,
 n_8,
 n_5,
 n_2,
 n_1]
 w'
 w' ∧
 ∃
 (f
 :
 Nat →
 Int),
 True ∧
 KeptL
 [n_11,
 n_8,
 n_5,
 n_2,
 n_1]
 w'
 w' ∧
 KeptL
 [n_11,
 n_8,
 n_5,
 n_2,
 n_1]
 w'
 w' ∧
 KeptL
 [n_11,
 n_8,
 n_5,
 n_2,
 n_1]
 w'
 w' ∧
 KeptL
 [n_11,
 n_8,
 n_5,
 n_2,
 n_1]
 w'
 w' ∧
 KeptL
 [n_11,
 n_8,
 n_5,
 n_2,
 n_1]
 w'
 w' ∧
 KeptL
 [n_11,
 n_8,
 n_5,
 n_2,
 n_1]
 w'
 w' ∧
 KeptL
 [n_11,
 n_8,
 n_5,
 n_2,
 n_1]
 w'
 w' ∧
 KeptL
 [n_11,
 n_8,
 n_5,
 n_2,
 n_1]
 w'
 w' ∧
 R
 (Ending.returned
 (Value.bool
 false))
 w'))))
 (CallsS Tryz.prog 29
 #[Value.pointer none, Value.string s] w'_3
 fun (e : Ending) (w' : World) =>
 ∃ (f_2 : Nat → Int),
 ∃ (f_3 : Nat → Int),
 ∃ (x_14 : ByteArray),
 ∃ (x_15 : Int),
 ∃ (x_16 : Bool),
 ∃ (x_17 : Bool),
 ∃ (p_5 : Option Addr),
 ∃ (n_9 : Nat),
 ∃ (c_5 : Nat),
 ∃ (x_18 : ByteArray),
 ∃ (x_19 : Bool),
 e =
 Ending.returned
 (Value.tuple
 #[Value.agg
 (arrI IntKind.u8 f_2 32 0 ++ (arrI IntKind.u8 f_3 16 0 ++ [Value.string x_14,
 Value.int IntKind.i64
 x_15,
 Value.bool x_16,
 Value.bool x_17,
 Value.slice p_5 n_9 c_5,
 Value.string x_18])).toArray,
 Value.bool x_19]) ∧
 KeptL [n_8, n_5, n_2, n_1] w'_3
 w' ∧
 ∀ (n_10 : Nat) (W : World),
 Loc w.heap.size
 [Blk.mk n_10 56
 (arrI IntKind.u8 f_2 32 0 ++ (arrI IntKind.u8 f_3 16 0 ++ [Value.string x_14,
 Value.int IntKind.i64
 x_15,
 Value.bool x_16,
 Value.bool x_17,
 Value.slice p_5 n_9 c_5,
 Value.string x_18]))
 (wrM 2),
 Blk.mk n_8 56
 (arrI IntKind.u8 f 32 0 ++ (arrI IntKind.u8 f_1 16 0 ++ [Value.string x_6,
 Value.int IntKind.i64
 x_7,
 Value.bool x_8,
 Value.bool x_9,
 Value.slice p_4 n_7 c_4,
 Value.string x_10]))
 0,
 Blk.mk n_5 33
 [Value.slice p_1 n_3 c_1,
 Value.slice p_2 n_4 c_2]
 0,
 Blk.mk n_2 50
 (arrI IntKind.u8 id 32 0 ++ (arrI IntKind.u8 au 16 0 ++ [Value.string g,
 Value.int IntKind.i64 v,
 Value.bool rm,
 Value.bool md,
 Value.slice p n c,
 Value.string t]))
 0,
 Blk.mk n_1 42
 [Value.slice ap an ac,
 Value.slice op on oc]
 0]
 w' W →
 CallsS Tryz.prog 22
 #[Value.pointer none,
 Value.agg
 (arrI IntKind.u8 f 32 0 ++ (arrI IntKind.u8 f_1 16 0 ++ [Value.string x_6,
 Value.int IntKind.i64
 x_7,
 Value.bool x_8,
 Value.bool x_9,
 Value.slice p_4 n_7 c_4,
 Value.string x_10])).toArray]
 W
 fun (e : Ending)
 (w' : World) =>
 ∃ (x_20 : Int),
 e =
 Ending.returned
 (Value.int IntKind.i64
 x_20) ∧
 KeptL
 [n_10, n_8, n_5, n_2,
 n_1]
 W w' ∧
 ∃ (f : Nat → Int),
 gimp (x_20 == 1)
 (AtL w' n_2 0
 (arrI IntKind.u8 f 32 0)) ∧
 bsp (x_20 == 1)
 (CallsS Tryz.prog 43
 #[Value.pointer
 none,
 Value.agg
 (arrI IntKind.u8 f 32 0).toArray]
 w'
 fun (e : Ending)
 (w'_4 : World) =>
 ∃ (x_21 : Int),
 e =
 Ending.returned
 (Value.int
 IntKind.i64
 x_21) ∧
 KeptL
 [n_10, n_8, n_5,
 n_2, n_1]
 w' w'_4 ∧
 bsp
 (true &&
 x_21 == 1 &&
 !x_19)
 (CallsS
 Tryz.prog 32
 #[Value.pointer
 none,
 Value.string
 s]
 w'_4
 fun
 (e : Ending)
 (w' :
 World) =>
 ∃ (x_22 :
 Bool),
 e =
 Ending.returned
 (Value.bool
 x_22) ∧
 KeptL
 [n_10, n_8,
 n_5, n_2,
 n_1]
 w'_4 w' ∧
 ∃ (f :
 Nat → Int),
 gimp
 (true &&
 !x_22)
 (AtL w'
 n_2
 (0 + 32)
 (arrI IntKind.u8 f 16 0)) ∧
 bsp
 (true &&
 !x_22)
 (CallsS
 Tryz.prog
 20
 #[Value.pointer
 none,
 Value.string
 s,
 Value.agg
 (arrI IntKind.u8 f 16 0).toArray]
 w'
 fun
 (e :
 Ending)
 (w'_5 :
 World) =>
 ∃ (x_23
 :
 Bool),
 e =
 Ending.returned
 (Value.bool
 x_23) ∧
 KeptL
 [n_10,
 n_8,
 n_5,
 n_2,
 n_1]
 w'
 w'_5 ∧
 ∃ (f
 :
 Nat →
 Int),
 gimp
 (true &&
 !x_23)
 (AtL
 w'_5
 n_2
 (0 +
 32)
 (arrI IntKind.u8 f 16 0)) ∧
 bsp
 (true &&
 !x_23)
 (CallsS
 Tryz.prog
 16
 #[Value.pointer
 none,
 Value.string
 s,
 Value.agg
 (arrI IntKind.u8 f 16 0).toArray]
 w'_5
 fun
 (e :
 Ending)
 (w' :
 World) =>
 ∃
 (x_24
 :
 Bool),
 e =
 Ending.returned
 (Value.bool
 x_24) ∧
 KeptL
 [n_10,
 n_8,
 n_5,
 n_2,
 n_1]
 w'_5
 w' ∧
 bsp
 (true &&
 !x_24)
 (CallsS
 Tryz.prog
 37
 #[Value.pointer
 none]
 w'
 fun
 (e :
 Ending)
 (w'_6 :
 World) =>
 ∃
 (p
 :
 Option
 Addr),
 ∃
 (n
 :
 Nat),
 ∃
 (c
 :
 Nat),
 e =
 Ending.returned
 (Value.slice
 p
 n
 c) ∧
 KeptL
 [n_10,
 n_8,
 n_5,
 n_2,
 n_1]
 w'
 w'_6 ∧
 bsp
 (true &&
 (↑n :
 Int) ==
 0)
 (CallsS
 Tryz.prog
 39
 #[Value.pointer
 none,
 Value.pointer
 none]
 w'_6
 fun
 (e :
 Ending)
 (w' :
 World) =>
 ∃
 (p
 :
 Option
 Addr),
 ∃
 (n
 :
 Nat),
 ∃
 (c
 :
 Nat),
 e =
 Ending.returned
 (Value.slice
 p
 n
 c) ∧
 KeptL
 [n_10,
 n_8,
 n_5,
 n_2,
 n_1]
 w'_6
 w' ∧
 bsp
 (true &&
 (↑n :
 Int) ==
 0)
 (CallsS
 Tryz.prog
 31
 #[Value.pointer
 none,
 Value.string
 s]
 w'
 fun
 (e :
 Ending)
 (w'_7 :
 World) =>
 ∃
 (p
 :
 Option
 Addr),
 ∃
 (n
 :
 Nat),
 ∃
 (c
 :
 Nat),
 e =
 Ending.returned
 (Value.slice
 p
 n
 c) ∧
 KeptL
 [n_10,
 n_8,
 n_5,
 n_2,
 n_1]
 w'
 w'_7 ∧
 bsp
 (true &&
 (↑n :
 Int) ==
 0)
 (CallsS
 Tryz.prog
 19
 #[Value.pointer
 none]
 w'_7
 fun
 (e :
 Ending)
 (w' :
 World) =>
 ∃
 (x_25
 :
 Int),
 e =
 Ending.returned
 (Value.int
 IntKind.i64
 x_25) ∧
 KeptL
 [n_10,
 n_8,
 n_5,
 n_2,
 n_1]
 w'_7
 w' ∧
 bsp
 (true &&
 x_25 ==
 0)
 (CallsS
 Tryz.prog
 42
 #[Value.pointer
 none]
 w'
 fun
 (e :
 Ending)
 (w'_8 :
 World) =>
 ∃
 (x_26
 :
 Option
 Addr),
 e =
 Ending.returned
 (Value.pointer
 x_26) ∧
 KeptL
 [n_10,
 n_8,
 n_5,
 n_2,
 n_1]
 w'
 w'_8 ∧
 bsp
 (true &&
 x_26.isNone)
 (CallsS
 Tryz.prog
 41
 #[Value.pointer
 none,
 Value.pointer
 none]
 w'_8
 fun
 (e :
 Ending)
 (w' :
 World) =>
 ∃
 (x_27
 :
 Bool),
 e =
 Ending.returned
 (Value.bool
 x_27) ∧
 KeptL
 [n_10,
 n_8,
 n_5,
 n_2,
 n_1]
 w'_8
 w' ∧
 bsp
 (true &&
 x_27)
 (CallsS
 Tryz.prog
 41
 #[Value.pointer
 x,
 Value.pointer
 none]
 w'
 fun
 (e :
 Ending)
 (w'_9 :
 World) =>
 ∃
 (x
 :
 Bool),
 e =
 Ending.returned
 (Value.bool
 x) ∧
 KeptL
 [n_10,
 n_8,
 n_5,
 n_2,
 n_1]
 w'
 w'_9 ∧
 R
 (Ending.returned
 (Value.bool
 (true &&
 !x)))
 w'_9)
 (KeptL
 [n_10,
 n_8,
 n_5,
 n_2,
 n_1]
 w'
 w' ∧
 R
 (Ending.returned
 (Value.bool
 false))
 w'))
 (KeptL
 [n_10,
 n_8,
 n_5,
 n_2,
 n_1]
 w'_8
 w'_8 ∧
 KeptL
 [n_10,
 n_8,
 n_5,
 n_2,
 n_1]
 w'_8
 w'_8 ∧
 R
 (Ending.returned
 (Value.bool
 false))
 w'_8))
 (KeptL
 [n_10,
 n_8,
 n_5,
 n_2,
 n_1]
 w'
 w' ∧
 KeptL
 [n_10,
 n_8,
 n_5,
 n_2,
 n_1]
 w'
 w' ∧
 KeptL
 [n_10,
 n_8,
 n_5,
 n_2,
 n_1]
 w'
 w' ∧
 R
 (Ending.returned
 (Value.bool
 false))
 w'))
 (KeptL
 [n_10,
 n_8,
 n_5,
 n_2,
 n_1]
 w'_7
 w'_7 ∧
 KeptL
 [n_10,
 n_8,
 n_5,
 n_2,
 n_1]
 w'_7
 w'_7 ∧
 KeptL
 [n_10,
 n_8,
 n_5,
 n_2,
 n_1]
 w'_7
 w'_7 ∧
 KeptL
 [n_10,
 n_8,
 n_5,
 n_2,
 n_1]
 w'_7
 w'_7 ∧
 R
 (Ending.returned
 (Value.bool
 false))
 w'_7))
 (KeptL
 [n_10,
 n_8,
 n_5,
 n_2,
 n_1]
 w'
 w' ∧
 KeptL
 [n_10,
 n_8,
 n_5,
 n_2,
 n_1]
 w'
 w' ∧
 KeptL
 [n_10,
 n_8,
 n_5,
 n_2,
 n_1]
 w'
 w' ∧
 KeptL
 [n_10,
 n_8,
 n_5,
 n_2,
 n_1]
 w'
 w' ∧
 KeptL
 [n_10,
 n_8,
 n_5,
 n_2,
 n_1]
 w'
 w' ∧
 R
 (Ending.returned
 (Value.bool
 false))
 w'))
 (KeptL
 [n_10,
 n_8,
 n_5,
 n_2,
 n_1]
 w'_6
 w'_6 ∧
 KeptL
 [n_10,
 n_8,
 n_5,
 n_2,
 n_1]
 w'_6
 w'_6 ∧
 KeptL
 [n_10,
 n_8,
 n_5,
 n_2,
 n_1]
 w'_6
 w'_6 ∧
 KeptL
 [n_10,
 n_8,
 n_5,
 n_2,
 n_1]
 w'_6
 w'_6 ∧
 KeptL
 [n_10,
 n_8,
 n_5,
 n_2,
 n_1]
 w'_6
 w'_6 ∧
 KeptL
 [n_10,
 n_8,
 n_5,
 n_2,
 n_1]
 w'_6
 w'_6 ∧
 R
 (Ending.returned
 (Value.bool
 false))
 w'_6))
 (KeptL
 [n_10,
 n_8,
 n_5,
 n_2,
 n_1]
 w'
 w' ∧
 KeptL
 [n_10,
 n_8,
 n_5,
 n_2,
 n_1]
 w'
 w' ∧
 KeptL
 [n_10,
 n_8,
 n_5,
 n_2,
 n_1]
 w'
 w' ∧
 KeptL
 [n_10,
 n_8,
 n_5,
 n_2,
 n_1]
 w'
 w' ∧
 KeptL
 [n_10,
 n_8,
 n_5,
 n_2,
 n_1]
 w'
 w' ∧
 KeptL
 [n_10,
 n_8,
 n_5,
 n_2,
 n_1]
 w'
 w' ∧
 KeptL
 [n_10,
 n_8,
 n_5,
 n_2,
 n_1]
 w'
 w' ∧
 R
 (Ending.returned
 (Value.bool
 false))
 w'))
 (KeptL
 [n_10,
 n_8,
 n_5,
 n_2,
 n_1]
 w'_5
 w'_5 ∧
 KeptL
 [n_10,
 n_8,
 n_5,
 n_2,
 n_1]
 w'_5
 w'_5 ∧
 KeptL
 [n_10,
 n_8,
 n_5,
 n_2,
 n_1]
 w'_5
 w'_5 ∧
 KeptL
 [n_10,
 n_8,
 n_5,
 n_2,
 n_1]
 w'_5
 w'_5 ∧
 KeptL
 [n_10,
 n_8,
 n_5,
 n_2,
 n_1]
 w'_5
 w'_5 ∧
 KeptL
 [n_10,
 n_8,
 n_5,
 n_2,
 n_1]
 w'_5
 w'_5 ∧
 KeptL
 [n_10,
 n_8,
 n_5,
 n_2,
 n_1]
 w'_5
 w'_5 ∧
 KeptL
 [n_10,
 n_8,
 n_5,
 n_2,
 n_1]
 w'_5
 w'_5 ∧
 R
 (Ending.returned
 (Value.bool
 false))
 w'_5))
 (KeptL
 [n_10,
 n_8,
 n_5,
 n_2,
 n_1]
 w' w' ∧
 ∃ (f :
 Nat →
 Int),
 True ∧
 KeptL
 [n_10,
 n_8,
 n_5,
 n_2,
 n_1]
 w'
 w' ∧
 KeptL
 [n_10,
 n_8,
 n_5,
 n_2,
 n_1]
 w'
 w' ∧
 KeptL
 [n_10,
 n_8,
 n_5,
 n_2,
 n_1]
 w'
 w' ∧
 KeptL
 [n_10,
 n_8,
 n_5,
 n_2,
 n_1]
 w'
 w' ∧
 KeptL
 [n_10,
 n_8,
 n_5,
 n_2,
 n_1]
 w'
 w' ∧
 KeptL
 [n_10,
 n_8,
 n_5,
 n_2,
 n_1]
 w'
 w' ∧
 KeptL
 [n_10,
 n_8,
 n_5,
 n_2,
 n_1]
 w'
 w' ∧
 KeptL
 [n_10,
 n_8,
 n_5,
 n_2,
 n_1]
 w'
 w' ∧
 R
 (Ending.returned
 (Value.bool
 false))
 w'))
 (KeptL
 [n_10, n_8,
 n_5, n_2,
 n_1]
 w'_4 w'_4 ∧
 ∃ (f :
 Nat → Int),
 True ∧
 KeptL
 [n_10, n_8,
 n_5, n_2,
 n_1]
 w'_4 w'_4 ∧
 ∃ (f :
 Nat → Int),
 True ∧
 KeptL
 [n_10,
 n_8,
 n_5,
 n_2,
 n_1]
 w'_4
 w'_4 ∧
 KeptL
 [n_10,
 n_8,
 n_5,
 n_2,
 n_1]
 w'_4
 w'_4 ∧
 KeptL
 [n_10,
 n_8,
 n_5,
 n_2,
 n_1]
 w'_4
 w'_4 ∧
 KeptL
 [n_10,
 n_8,
 n_5,
 n_2,
 n_1]
 w'_4
 w'_4 ∧
 KeptL
 [n_10,
 n_8,
 n_5,
 n_2,
 n_1]
 w'_4
 w'_4 ∧
 KeptL
 [n_10,
 n_8,
 n_5,
 n_2,
 n_1]
 w'_4
 w'_4 ∧
 KeptL
 [n_10,
 n_8,
 n_5,
 n_2,
 n_1]
 w'_4
 w'_4 ∧
 KeptL
 [n_10,
 n_8,
 n_5,
 n_2,
 n_1]
 w'_4
 w'_4 ∧
 R
 (Ending.returned
 (Value.bool
 false))
 w'_4))
 (KeptL
 [n_10, n_8, n_5,
 n_2, n_1]
 w' w' ∧
 KeptL
 [n_10, n_8, n_5,
 n_2, n_1]
 w' w' ∧
 ∃ (f : Nat → Int),
 True ∧
 KeptL
 [n_10, n_8,
 n_5, n_2, n_1]
 w' w' ∧
 ∃ (f :
 Nat → Int),
 True ∧
 KeptL
 [n_10, n_8,
 n_5, n_2,
 n_1]
 w' w' ∧
 KeptL
 [n_10, n_8,
 n_5, n_2,
 n_1]
 w' w' ∧
 KeptL
 [n_10,
 n_8, n_5,
 n_2, n_1]
 w' w' ∧
 KeptL
 [n_10,
 n_8,
 n_5,
 n_2,
 n_1]
 w' w' ∧
 KeptL
 [n_10,
 n_8,
 n_5,
 n_2,
 n_1]
 w' w' ∧
 KeptL
 [n_10,
 n_8,
 n_5,
 n_2,
 n_1]
 w' w' ∧
 KeptL
 [n_10,
 n_8,
 n_5,
 n_2,
 n_1]
 w'
 w' ∧
 KeptL
 [n_10,
 n_8,
 n_5,
 n_2,
 n_1]
 w'
 w' ∧
 R
 (Ending.returned
 (Value.bool
 false))
 w'))))))
 (KeptL [n_5, n_2, n_1] w' w' ∧ R (Ending.returned (Value.bool false)) w'))))
 (KeptL [n_5, n_2, n_1] W W ∧
 bsp x_1
 (CallsS Tryz.prog 15 #[] W fun (e : Ending) (w' : World) =>
 ∃ (x : Bool),
 e = Ending.returned (Value.bool x) ∧
 KeptL [n_5, n_2, n_1] W w' ∧ R (Ending.returned (Value.bool (true && x))) w')
 (KeptL [n_5, n_2, n_1] W W ∧ R (Ending.returned (Value.bool false)) W))
theorem vc_lrclones (ap : Option Addr) (an : Nat) (ac : Nat) (op : Option Addr) (on : Nat) (oc : Nat) (id : Nat → Int) (au : Nat → Int) (g : ByteArray) (v : Int) (rm : Bool) (md : Bool) (p : Option Addr) (n : Nat) (c : Nat) (t : ByteArray) (s : ByteArray) (w : World) (R : Ending → World → Prop) (h : VC_lrclones ap an ac op on oc id au g v rm md p n c t s w R) : Calls Tryz.prog 11 ([Value.agg
    #[Value.slice ap an ac, Value.slice op on oc],
  Value.agg
    (arrI IntKind.u8 id 32 0 ++
        (arrI IntKind.u8 au 16 0 ++
          [Value.string g, Value.int IntKind.i64 v, Value.bool rm, Value.bool md, Value.slice p n c,
            Value.string t])).toArray,
  Value.string s] : List Value).toArray w R := by
  have e : execR2 { P := Tryz.prog, loops := [(7, [(12, Ck.int IntKind.i64)]), (10, [(13, Ck.int IntKind.i64)]), (19, [(16, Ck.int IntKind.i64)]), (28, [(19, Ck.int IntKind.i64), (18, Ck.bool)])], pur := pur1, tails := [(30, 6)], joins := [], boxes := [] } Tryz.f11.results.toList R (Tryz.f11.body.getD .skip) (initF [Value.agg
    #[Value.slice ap an ac, Value.slice op on oc],
  Value.agg
    (arrI IntKind.u8 id 32 0 ++
        (arrI IntKind.u8 au 16 0 ++
          [Value.string g, Value.int IntKind.i64 v, Value.bool rm, Value.bool md, Value.slice p n c,
            Value.string t])).toArray,
  Value.string
    s] (Tryz.f11.ntmps - ([Value.agg #[Value.slice ap an ac, Value.slice op on oc],
  Value.agg
    (arrI IntKind.u8 id 32 0 ++
        (arrI IntKind.u8 au 16 0 ++
          [Value.string g, Value.int IntKind.i64 v, Value.bool rm, Value.bool md, Value.slice p n c,
            Value.string t])).toArray,
  Value.string
    s] : List Value).length)) w = VC_lrclones ap an ac op on oc id au g v rm md p n c t s w R := by kernel_rfl
  have hb : Tryz.f11.body = some (Tryz.f11.body.getD .skip) := by kernel_rfl
  exact calls_of_exec2' (P := Tryz.prog) (fn := Tryz.f11) (c := Tryz.f11.body.getD .skip) (args := [Value.agg
    #[Value.slice ap an ac, Value.slice op on oc],
  Value.agg
    (arrI IntKind.u8 id 32 0 ++
        (arrI IntKind.u8 au 16 0 ++
          [Value.string g, Value.int IntKind.i64 v, Value.bool rm, Value.bool md, Value.slice p n c,
            Value.string t])).toArray,
  Value.string s]) (w := w) (R := R) pur1_ok Tryz.func11 hb e h

end Go.Proofs.YtkkfnlehlkiejaaGreatDoor

/- Chapter 21: RegistryClones on worlds. No condition but what a reading gives. -/
namespace Go.Proofs.YtkkfnlehlkiejaaGreatDoor
open Go.RowKit Go.Maps

/-! ### Blocks that may be written -/
def BlkW (w : World) (B : Nat) (T : TypeId) (p : Option Addr) (sz : Nat) : Prop := sz = 0 ∨ ∃ (g : Nat) (cur : Array Value), p = some ⟨g, 0, none⟩ ∧ B ≤ g ∧ w.heap[g]? = some (.cells cur T (0, 0)) ∧ sz ≤ cur.size
theorem BlkW.own {w : World} {B L n c : Nat} {T : TypeId} {p : Option Addr} {xs : List Value} (h : w.ownsRow B T L (.slice p n c) n xs) : BlkW w B T p (n * L) := by
  rcases h.2 with ⟨_, h0⟩ | ⟨g, cap, cur, hv, hb, hg, h4, h5, h6, h7⟩
  · exact .inl (by rw [h0]; simp)
  simp only [Value.slice.injEq, true_and] at hv
  obtain ⟨rfl, rfl⟩ := hv
  exact .inr ⟨g, cur, rfl, hb, hg, by rw [h6]; exact Nat.mul_le_mul_right _ h4⟩
theorem BlkW.k0 {w w' : World} {B sz : Nat} {T : TypeId} {p : Option Addr} (h : BlkW w B T p sz) (hk : K0 w w') : BlkW w' B T p sz := by
  rcases h with h | ⟨g, cur, h1, h2, h3, h4⟩
  · exact .inl h
  · exact .inr ⟨g, cur, h1, h2, hk.blk h3 (fun h => h), h4⟩
theorem BlkW.kpM {w w' : World} {B sz m : Nat} {T : TypeId} {p : Option Addr} {es : Array MapEntry} {c : Nat} (h : BlkW w B T p sz) (hk : Kp (· = m) w w') (hm : w.heap[m]? = some (.map es c)) : BlkW w' B T p sz := by
  rcases h with h | ⟨g, cur, h1, h2, h3, h4⟩
  · exact .inl h
  · exact .inr ⟨g, cur, h1, h2, hk.blk h3 (fun e => by have e : g = m := e; subst e; rw [hm] at h3; cases h3), h4⟩
theorem BlkW.put {w w1 : World} {B sz b o : Nat} {T : TypeId} {p : Option Addr} {cs : List Value} (h : BlkW w B T p sz) (hp : PutB w b o cs w1) : BlkW w1 B T p sz := by
  rcases h with h | ⟨g, cur, h1, h2, h3, h4⟩
  · exact .inl h
  · by_cases e : g = b
    · subst e
      exact .inr ⟨g, _, h1, h2, hp.block h3, by simpa [putL_len] using h4⟩
    · exact .inr ⟨g, cur, h1, h2, hp.blk h3 e, h4⟩
/-- The slices of moderators in a row of definitions. -/
def SlR (w : World) (p : Option Addr) (cs : List DX) : Prop := ∀ k x, cs[k]? = some x → ∃ (g : Nat) (cur : Array Value), p = some ⟨g, 0, none⟩ ∧ w.heap[g]? = some (.cells cur 56 (0, 0)) ∧ cur[k * 54 + 52]? = some (.slice x.p x.d.ms.length x.c)
theorem SlR.own {w : World} {B c : Nat} {p : Option Addr} {cs : List DX} (h : w.ownsRow B 56 54 (.slice p cs.length c) cs.length (cs.flatMap dfC)) : SlR w p cs := fun k x hx => by
  have hk := (List.getElem?_eq_some_iff.1 hx).1
  rcases h.2 with ⟨_, h0⟩ | ⟨g, cap, cur, hv, hb, hg, h4, h5, h6, h7⟩
  · omega
  simp only [Value.slice.injEq, true_and] at hv
  obtain ⟨rfl, rfl⟩ := hv
  refine ⟨g, cur, rfl, hg, ?_⟩
  have h8 := flat_get dfC 54 cs k x 52 (fun y _ => dfC_length y) hx (by decide)
  rw [← h7, List.getElem?_take, if_pos (by omega), Array.getElem?_toList] at h8
  rw [h8]; rfl
theorem SlR.putM {w w1 : World} {b o : Nat} {p : Option Addr} {cs : List DX} {vs : List Value} {cur : Array Value} {T : TypeId} {f : Nat × Nat} (h : SlR w p cs) (hp : PutB w b o vs w1) (hb : w.heap[b]? = some (.cells cur T f)) (hT : T ≠ 56) : SlR w1 p cs := fun k x hx => by
  obtain ⟨g, c, h1, h2, h3⟩ := h k x hx
  refine ⟨g, c, h1, hp.blk h2 (fun e => ?_), h3⟩
  subst e
  rw [hb] at h2
  simp only [Option.some.injEq, Obj.cells.injEq] at h2
  exact hT h2.2.1
theorem SlR.putV {w w1 : World} {b i : Nat} {p : Option Addr} {cs : List DX} {v : Value} (h : SlR w p cs) (hp : PutB w b (0 + i * 54 + 49) [v] w1) : SlR w1 p cs := fun k x hx => by
  obtain ⟨g, c, h1, h2, h3⟩ := h k x hx
  by_cases e : g = b
  · subst e
    refine ⟨g, _, h1, hp.block h2, ?_⟩
    have h4 : c.toList[k * 54 + 52]? = some (.slice x.p x.d.ms.length x.c) := by rw [Array.getElem?_toList]; exact h3
    show (putL c.toList (0 + i * 54 + 49) [v]).toArray[k * 54 + 52]? = _
    rw [← Array.getElem?_toList]
    show (c.toList.set (0 + i * 54 + 49) v)[k * 54 + 52]? = _
    rw [List.getElem?_set, if_neg (by omega)]
    exact h4
  · exact ⟨g, c, h1, hp.blk h2 e, h3⟩
theorem kl_type {w w' : World} {g : Nat} {L : List Nat} {cur : Array Value} {T : TypeId} {f : Nat × Nat} (hk : Kp (· = g) w w') (hg : w.heap[g]? = some (.cells cur T f)) (hL : ∀ y ∈ L, ∃ c T' f', w.heap[y]? = some (.cells c T' f') ∧ T' ≠ T) : KeptL L w w' := .of_kp hk (fun y hy e => by
  have e : y = g := e
  subst e
  obtain ⟨c, T', f', h1, h2⟩ := hL y hy
  rw [hg] at h1
  simp only [Option.some.injEq, Obj.cells.injEq] at h1
  exact h2 h1.2.1.symm)
theorem kl_map {w w' : World} {m : Nat} {L : List Nat} {es : Array MapEntry} {c : Nat} (hk : Kp (· = m) w w') (hm : w.heap[m]? = some (.map es c)) (hL : ∀ y ∈ L, ∃ c T' f', w.heap[y]? = some (.cells c T' f')) : KeptL L w w' := .of_kp hk (fun y hy e => by
  have e : y = m := e
  subst e
  obtain ⟨c, T', f', h1⟩ := hL y hy
  rw [hm] at h1; cases h1)
theorem any_snoc {cs : List DX} {f : DX → Bool} {i : Nat} {x : DX} (h : cs[i]? = some x) : (cs.take (i + 1)).any f = ((cs.take i).any f || f x) := by
  rw [take_snoc h, List.any_append]; simp
set_option maxRecDepth 100000 in
set_option maxHeartbeats 16000000 in
theorem lrclones_any (As : List Au) (ap : Option Addr) (ac : Nat) (Os : List OpY) (op : Option Addr) (oc : Nat) (m : DX) (s : ByteArray) (w : World) (hA : RowA atC 17 w ap As) (hB : ∀ x ∈ As, BY x.au) (hO : RowA opC 55 w op Os) (hR : ∀ x ∈ Os, DfR w x.x) (hm : DfR w m) (hG : GW w) :
    Calls Tryz.prog 11 #[.agg #[.slice ap As.length ac, .slice op Os.length oc], dfV m, .string s] w fun e w' => e = .returned (.bool true) ∧ K0 w w' := by
  refine vc_lrclones ap As.length ac op Os.length oc m.d.id m.d.au m.d.g m.d.v m.d.rm m.d.md m.p m.d.ms.length m.c m.d.tx s w _ (fun n1 n2 W hW => ?_)
  have kW : K0 w W := hW.kk rfl
  have hG' : ∀ {wa : World}, K0 w wa → GW wa := fun k => hG.kp k (fun h => h)
  refine ⟨(lplay_any As ap ac Os op oc W (hA.k0 kW) hB (hO.k0 kW) (fun x hx => (hR x hx).k0 kW) (hG' kW)).mono fun e w1 hQ => ?_⟩
  rcases hQ with ⟨p, k, c, q, m, d, he, k1⟩ | ⟨b, mb, rp, rc, l, ds, dp, dc, he, hI, hOK, h30⟩
  · refine ⟨_, _, _, _, _, _, _, _, he, .of_k0 k1, fun n3 W2 hW2 => bsp_intro (fun h => by simp at h) (fun _ => ?_)⟩
    have k02 := (kW.trans k1).trans (hW2.kk rfl : K0 w1 W2)
    exact ⟨.refl _ _, bsp_intro (fun _ => ⟨(known_any W2 (hG' k02)).mono fun e w3 ⟨he, k3⟩ => ⟨_, he, .of_k0 k3, rfl, k02.trans k3⟩⟩) (fun h => by cases h)⟩
  refine ⟨_, _, _, _, _, _, _, _, he, .of_k0 hI.k, fun n5 W2 hW2 => bsp_intro (fun _ => ?_) (fun h => by simp at h)⟩
  have k2 : K0 w1 W2 := hW2.kk rfl
  have k02 := (kW.trans hI.k).trans k2
  refine ⟨(known_any W2 (hG' k02)).mono fun e w3 ⟨he, k3⟩ => ⟨_, he, .of_k0 k3, bsp_intro (fun h => by simp at h) (fun _ => ?_)⟩⟩
  have hI3 := hI.k0 (k2.trans k3)
  have hml := hI3.reg.map.lt
  refine ⟨(rclone_any hI3.reg hOK.len).mono fun e w4 ⟨⟨b', mb', l', he, hC, hEq, gb', gm'⟩, k4⟩ => ⟨_, he, .of_k0 k4, ?_⟩⟩
  have hll : l'.length = l.length := hEq.1
  have hRr := (hI3.k0 k4).reg
  have k04 := (k02.trans k3).trans k4
  have hne : mb ≠ mb' := by omega
  refine ⟨(rvers_any hRr (by omega) s).mono fun e w5 ⟨⟨cs, p3, c3, he, ho, hV, hM⟩, k5⟩ => ⟨_, _, _, he, .of_k0 k5, ?_⟩⟩
  have hcsl : cs.length ≤ 4096 := by
    have h1 := hV.1.length_eq
    unfold accL at h1
    rw [List.length_map, List.length_map] at h1
    have h2 : ((l.map (·.2)).filter fun x : DX => decide (x.d.g = s)).length ≤ (l.map (·.2)).length := List.length_filter_le _ _
    rw [List.length_map] at h2
    omega
  have hok8 : ∀ x ∈ cs, x.d.ms.length ≤ 8 := fun x hx => by
    have h1 := hV.1.subset (List.mem_map.2 ⟨x, hx, rfl⟩)
    unfold accL at h1
    obtain ⟨y, hy, e⟩ := List.mem_map.1 h1
    obtain ⟨q, hq, rfl⟩ := List.mem_map.1 (List.mem_filter.1 hy).1
    have h2 := hRr.ok q.1 q.2 (aget_at hRr.dis hq)
    have h3 := (dchk_sz h2.1).2.2.2.1
    have e : q.2.d = x.d := e
    rw [← e]; exact h3
  refine ⟨fun vs w' => ∃ i : Nat, vs = [.int .i64 (i : Int)] ∧ i ≤ cs.length ∧ SlR w' p3 cs ∧ BlkW w' w4.heap.size 56 p3 (cs.length * 54) ∧ (∀ x ∈ cs, BlkW w' w4.heap.size 53 x.p (x.d.ms.length * 16)) ∧ K0 w4 w',
    fun vs _ => (match vs with | .int _ a :: _ => cs.length - a.toNat | _ => 0), ⟨0, rfl, by omega, .own ho, .own ho, fun x hx => .own (hM x hx), k5⟩, ?_⟩
  rintro x w6 ⟨i, hv, hi, hS, hBD, hBM, k6⟩ hL6
  simp only [List.cons.injEq, Value.int.injEq, true_and, and_true] at hv
  subst hv
  refine bsp_intro (fun hlt => ?_) (fun hge => ?_)
  · have hlt : i < cs.length := by simp at hlt; omega
    obtain ⟨x, hx⟩ : ∃ x, cs[i]? = some x := ⟨_, List.getElem?_eq_getElem hlt⟩
    have hxm := List.mem_of_getElem? hx
    have h8 := hok8 x hxm
    refine ⟨fun vs w' => ∃ j : Nat, vs = [.int .i64 (j : Int)] ∧ j ≤ x.d.ms.length ∧ SlR w' p3 cs ∧ BlkW w' w4.heap.size 56 p3 (cs.length * 54) ∧ (∀ x ∈ cs, BlkW w' w4.heap.size 53 x.p (x.d.ms.length * 16)) ∧ K0 w4 w',
      fun vs _ => (match vs with | .int _ a :: _ => x.d.ms.length - a.toNat | _ => 0), ⟨0, rfl, by omega, hS, hBD, hBM, k6⟩, ?_⟩
    rintro x1 w7 ⟨j, hv, hj, hS7, hBD7, hBM7, k7⟩ hL7
    simp only [List.cons.injEq, Value.int.injEq, true_and, and_true] at hv
    subst hv
    obtain ⟨g, cur, hg, hhg, hcl⟩ := hS7 i x hx
    have hcell : w7.cell? ⟨g, 0 + i * 54 + 52, none⟩ = some (.slice x.p x.d.ms.length x.c) := cell_at hhg (by rw [Nat.zero_add]; exact hcl)
    have hLT : ∀ y ∈ [n5, n2, n1], ∃ c T' f', w7.heap[y]? = some (.cells c T' f') ∧ T' ≠ 56 ∧ T' ≠ 53 := fun y hy => by
      simp only [List.mem_cons, List.not_mem_nil, or_false] at hy
      rcases hy with hy | hy | hy
      · subst hy; exact ⟨_, 33, _, hL7.cells 0 rfl, by decide, by decide⟩
      · subst hy; exact ⟨_, 50, _, hL7.cells 1 rfl, by decide, by decide⟩
      · subst hy; exact ⟨_, 42, _, hL7.cells 2 rfl, by decide, by decide⟩
    rw [Int.toNat_natCast]
    refine nn_is hg ⟨⟨by omega, by omega⟩, x.p, x.d.ms.length, x.c, hcell, bsp_intro (fun hlt2 => ?_) (fun hge2 => ?_)⟩
    · have hlt2 : j < x.d.ms.length := by simp at hlt2; omega
      rcases hBM7 x hxm with h0 | ⟨g2, cur2, hp2, hB2, hg2, hsz2⟩
      · exfalso; omega
      rw [Int.toNat_natCast]
      refine nn_is hg ⟨⟨by omega, by omega⟩, x.p, x.d.ms.length, x.c, hcell, nn_is hp2 ⟨⟨by omega, by omega⟩, WrL_block hg2 (by omega), fun w8 p8 => ⟨kl_type p8.kp hg2 (fun y hy => by obtain ⟨c, T', f', h1, h2, h3⟩ := hLT y hy; exact ⟨c, T', f', h1, h3⟩), ⟨j + 1, by rw [inc64 (by omega)], by omega, hS7.putM p8 hg2 (by decide), hBD7.put p8, fun z hz => (hBM7 z hz).put p8, put_k0 k7 p8 hB2⟩, by rw [inc64 (by omega)]; simp only [Int.toNat_natCast]; omega⟩⟩⟩
    · rcases hBD7 with h0 | ⟨g2, cur2, hp2, hB2, hg2, hsz2⟩
      · exfalso; omega
      obtain rfl : g = g2 := by rw [hg] at hp2; cases hp2; rfl
      refine nn_is hg ⟨⟨by omega, by omega⟩, cell_wr hg2 (by omega), fun w8 p8 => ⟨kl_type p8.kp hg2 (fun y hy => by obtain ⟨c, T', f', h1, h2, h3⟩ := hLT y hy; exact ⟨c, T', f', h1, h2⟩), ⟨i + 1, by rw [inc64 (by omega)], by omega, hS7.putV p8, BlkW.put (.inr ⟨g, cur2, hp2, hB2, hg2, hsz2⟩) p8, fun z hz => (hBM7 z hz).put p8, put_k0 k7 p8 hB2⟩, by rw [inc64 (by omega)]; simp only [Int.toNat_natCast]; omega⟩⟩
  have hC6 := hC.k0 k6
  have hR6 := hRr.k0 k6
  have k06 := k04.trans k6
  refine bsp_intro (fun _ => ?_) (fun h => by cases h)
  refine ⟨(requal_any hC6 hR6 hOK.len hOK.sz).mono fun e w7 ⟨he, k7⟩ => ?_⟩
  rw [hEq.eq hC6.dis] at he
  refine ⟨_, he, .of_k0 k7, bsp_intro (fun h => by cases h) (fun _ => ?_)⟩
  have hC7 := hC6.k0 k7
  have hR7 := hR6.k0 k7
  have k07 := k06.trans k7
  refine ⟨(lto_any m w7 (hm.row.k0 k07)).mono fun e w8 ⟨⟨q, cq, he, hmo⟩, k8⟩ => ⟨_, _, _, _, _, _, _, _, _, _, he, .of_k0 k8, fun n8 W8 hW8 => ?_⟩⟩
  have kk8 : K0 w8 W8 := hW8.kk rfl
  have k78 := k8.trans kk8
  have k08 := k07.trans k78
  have hmo8 := hmo.k0 kk8
  have hle := own_le hmo
  have zx := toD_OK hm.ok
  have lx : (toD m.d).ms.length ≤ 10 := by show (m.d.ms.take 10).length ≤ 10; rw [List.length_take]; omega
  have hC8 := hC7.k0 k78
  have hR8 := hR7.k0 k78
  obtain ⟨es7, cm7, hmb7, _⟩ := hC7.map.blk
  obtain ⟨es8, cm8, hmb8, _⟩ := hC8.map.blk
  have hm7l := hC7.map.lt
  have hLT8 : ∀ y ∈ [n8, n5, n2, n1], ∃ c T' f', W8.heap[y]? = some (.cells c T' f') ∧ T' ≠ 53 := fun y hy => by
    simp only [List.mem_cons, List.not_mem_nil, or_false] at hy
    rcases hy with hy | hy | hy | hy
    · subst hy; exact ⟨_, 56, _, hW8.cells 0 rfl, by decide⟩
    · subst hy; exact ⟨_, 33, _, hW8.cells 1 rfl, by decide⟩
    · subst hy; exact ⟨_, 50, _, hW8.cells 2 rfl, by decide⟩
    · subst hy; exact ⟨_, 42, _, hW8.cells 3 rfl, by decide⟩
  refine ⟨(radd_any hC8 hOK.len ⟨toD m.d, q, cq⟩ hmo8.row hle zx (hG' k08)).mono fun e w9 ⟨he, hQ⟩ => ?_⟩
  have k9 : Kp (· = mb') W8 w9 := by
    rcases hQ with ⟨_, _, k9⟩ | ⟨_, _, _, _, _, k9⟩
    · exact k9.mono fun _ _ h => h.elim
    · exact k9
  refine ⟨_, he, kl_map k9 hmb8 (fun y hy => by obtain ⟨c, T', f', h1, _⟩ := hLT8 y hy; exact ⟨c, T', f', h1⟩), ?_⟩
  have hBq : BlkW W8 w7.heap.size 53 q ((toD m.d).ms.length * 16) := .own hmo8
  have hqlt : ∀ g, q = some ⟨g, 0, none⟩ → 0 < (toD m.d).ms.length → w7.heap.size ≤ g ∧ g < W8.heap.size := fun g hg hpos => by
    rcases hBq with h0 | ⟨g', cur, h1, h2, h3, h4⟩
    · exfalso; omega
    · rw [hg] at h1; cases h1; exact ⟨h2, block_lt h3⟩
  refine ⟨fun vs w' => ∃ i : Nat, vs = [.int .i64 (i : Int)] ∧ i ≤ (toD m.d).ms.length ∧ Kp (fun j => q = some ⟨j, 0, none⟩ ∧ 0 < (toD m.d).ms.length) w9 w' ∧ BlkW w' w7.heap.size 53 q ((toD m.d).ms.length * 16),
    fun vs _ => (match vs with | .int _ a :: _ => (toD m.d).ms.length - a.toNat | _ => 0), ⟨0, rfl, by omega, .refl _ _, hBq.kpM k9 hmb8⟩, ?_⟩
  rintro x w10 ⟨i, hv, hi, k10, hBq10⟩ hL10
  simp only [List.cons.injEq, Value.int.injEq, true_and, and_true] at hv
  subst hv
  refine bsp_intro (fun hlt => ?_) (fun hge => ?_)
  · have hlt : i < (toD m.d).ms.length := by simp at hlt; omega
    rcases hBq10 with h0 | ⟨g2, cur2, hp2, hB2, hg2, hsz2⟩
    · exfalso; omega
    rw [Int.toNat_natCast]
    refine nn_is hp2 ⟨⟨by omega, by show (i : Int) < ((toD m.d).ms.length : Int); omega⟩, WrL_block hg2 (by omega), fun w11 p11 => ⟨kl_type p11.kp hg2 (fun y hy => ?_), ⟨i + 1, by rw [inc64 (by omega)], by omega, k10.trans (p11.kp.mono fun j hj e => by have e : j = g2 := e; rw [e]; exact ⟨hp2, by omega⟩), BlkW.put (.inr ⟨g2, cur2, hp2, hB2, hg2, hsz2⟩) p11⟩, by rw [inc64 (by omega)]; simp only [Int.toNat_natCast]; omega⟩⟩
    simp only [List.mem_cons, List.not_mem_nil, or_false] at hy
    rcases hy with hy | hy | hy | hy
    · subst hy; exact ⟨_, 56, _, hL10.cells 0 rfl, by decide⟩
    · subst hy; exact ⟨_, 33, _, hL10.cells 1 rfl, by decide⟩
    · subst hy; exact ⟨_, 50, _, hL10.cells 2 rfl, by decide⟩
    · subst hy; exact ⟨_, 42, _, hL10.cells 3 rfl, by decide⟩
  have kcomb : Kp (· = mb') w7 w10 := (((k78.mono fun _ _ h => h.elim).trans (k9.mono fun j _ h => .inl h)).trans (k10.mono fun j _ h => .inr (hqlt j h.1 h.2).1) : Kp (fun j => j = mb' ∨ w7.heap.size ≤ j) w7 w10).mono fun j hj h => by
    rcases h with h | h
    · exact h
    · omega
  have hR10 := hR7.kpM kcomb hmb7 hne
  have gmb : w.heap.size ≤ mb' := by
    have := (k02.trans k3).size
    omega
  have k010 : K0 w w10 := k07.fresh kcomb (fun j hj e => by omega)
  have hn2 := hL10.cells 2 rfl
  rcases hQ with ⟨hnz, hR9, kk9⟩ | ⟨h0, pn, cn, hR9, hfr, _⟩
  -- not added
  have kk10 : K0 w7 w10 := (((k78.mono fun _ _ h => h.elim).trans (kk9.mono fun _ _ h => h.elim)).trans (k10.mono fun j _ h => (hqlt j h.1 h.2).1) : Kp (fun j => w7.heap.size ≤ j) w7 w10).mono fun j hj h => by omega
  have hC10 := hC7.k0 kk10
  refine ⟨(requal_any hC10 hR10 hOK.len hOK.sz).mono fun e wE ⟨he, kE⟩ => ?_⟩
  rw [hEq.eq hC10.dis] at he
  have hz : (addE (autL As) l' (DX.mk (toD m.d) q cq).d == 0) = false := by
    rw [beq_eq_false_iff_ne]; exact hnz
  refine ⟨_, he, .of_k0 kE, bsp_intro (fun h => by exfalso; rw [hz] at h; cases h) (fun _ => bsp_intro (fun h => by exfalso; rw [hz] at h; cases h) (fun _ => ?_))⟩
  have k0E := k010.trans kE
  have hn2E := kE.blk hn2 (fun h => h)
  clear kE hz he kk10 hC10 hR10 hR9 kk9 hnz
  rotate_left
  -- added
  have h0' : addE (autL As) l' (toD m.d) = 0 := h0
  obtain ⟨_, _, z3, _⟩ := addE_zero h0'
  have hnew := aget_none.1 z3
  have hC10 : Reg w10 b' mb' (autL As) (aset l' (idI (toD m.d).id) ⟨toD m.d, pn, cn⟩) := by
    refine ⟨hC7.st.kpM kcomb hmb7, hR9.map.kp k10 (fun e => ?_), fun a x hx => ?_, hR9.ok, hR9.au⟩
    · have := (hqlt mb' e.1 e.2).1; omega
    · have hx' := hx
      rw [aget_aset] at hx
      split at hx
      · cases hx
        have h1 := hR9.str a _ hx'
        refine ⟨fun jj z hz => ?_, h1.2⟩
        obtain ⟨g, o, hp, hat⟩ := h1.1 jj z hz
        refine ⟨g, o, hp, ⟨At_of _ _ fun ji v hv => k10.cell' (hat.cell hv) (fun e => ?_)⟩⟩
        have h2 := hfr g o hp
        have h3 := (hqlt g e.1 e.2).2
        omega
      · have h1 := hC7.str a x hx
        exact ⟨h1.1.kpM kcomb hmb7, h1.2⟩
  have hlen : (aset l' (idI (toD m.d).id) (⟨toD m.d, pn, cn⟩ : DX)).length = l'.length + 1 := by rw [aset_new hnew]; simp
  refine ⟨(requal_any hC10 hR10 hOK.len hOK.sz).mono fun e w11 ⟨he, k11⟩ => ?_⟩
  rw [eqM_len (by rw [hlen]; omega)] at he
  have hz : (addE (autL As) l' (DX.mk (toD m.d) q cq).d == 0) = true := by rw [h0]; rfl
  refine ⟨_, he, .of_k0 k11, bsp_intro (fun h => by exfalso; rw [hz] at h; cases h) (fun _ => bsp_intro (fun _ => ?_) (fun h => by exfalso; rw [hz] at h; cases h))⟩
  have hC11 := hC10.k0 k11
  refine ⟨(rvers_any hC11 (by rw [hlen]; omega) (toD m.d).g).mono fun e w12 ⟨⟨cs3, p5, c5, he, ho3, hV3, hM3⟩, k12⟩ => ⟨_, _, _, he, .of_k0 k12, ?_⟩⟩
  have hfound : cs3.any (fun x => dEq x.d (toD m.d)) = true := by
    have h1 : (toD m.d) ∈ accL (fun x => decide (x.d.g = (toD m.d).g)) (aset l' (idI (toD m.d).id) (⟨toD m.d, pn, cn⟩ : DX)) := by
      unfold accL
      refine List.mem_map.2 ⟨⟨toD m.d, pn, cn⟩, List.mem_filter.2 ⟨List.mem_map.2 ⟨(idI (toD m.d).id, ⟨toD m.d, pn, cn⟩), ?_, rfl⟩, by simp⟩, rfl⟩
      rw [aset_new hnew]; simp
    obtain ⟨x, hx, e⟩ := List.mem_map.1 (hV3.1.symm.subset h1)
    have e : x.d = toD m.d := e
    exact List.any_eq_true.2 ⟨x, hx, dEq_iff.2 (by rw [e])⟩
  have hok3 : ∀ x ∈ cs3, x.d.OK ∧ x.d.ms.length ≤ 8 := fun x hx => by
    have h1 := hV3.1.subset (List.mem_map.2 ⟨x, hx, rfl⟩)
    unfold accL at h1
    obtain ⟨y, hy, e⟩ := List.mem_map.1 h1
    obtain ⟨q', hq', rfl⟩ := List.mem_map.1 (List.mem_filter.1 hy).1
    have h2 := hC11.ok q'.1 q'.2 (aget_at hC11.dis hq')
    have h3 := (dchk_sz h2.1).2.2.2.1
    have e : q'.2.d = x.d := e
    rw [← e]; exact ⟨h2.2.2.2, h3⟩
  have hrow3 : RowA dfC 54 w12 p5 cs3 := RowA.own ho3 dfC_length (by decide)
  have hcs3l : cs3.length ≤ 100 := by
    have h1 := hV3.1.length_eq
    unfold accL at h1
    rw [List.length_map, List.length_map] at h1
    have h2 : (((aset l' (idI (toD m.d).id) (⟨toD m.d, pn, cn⟩ : DX)).map (·.2)).filter fun x : DX => decide (x.d.g = (toD m.d).g)).length ≤ ((aset l' (idI (toD m.d).id) (⟨toD m.d, pn, cn⟩ : DX)).map (·.2)).length := List.length_filter_le _ _
    rw [List.length_map, hlen] at h2
    omega
  have k012 := (k010.trans k11).trans k12
  refine ⟨fun vs w' => ∃ (i : Nat) (fd : Bool), vs = [.int .i64 (i : Int), .bool fd] ∧ i ≤ cs3.length ∧ fd = (cs3.take i).any (fun x => dEq x.d (toD m.d)) ∧ K0 w12 w',
    fun vs _ => (match vs with | .int _ a :: _ => cs3.length - a.toNat | _ => 0), ⟨0, false, rfl, by omega, rfl, .refl _ _⟩, ?_⟩
  rintro x y w13 ⟨i2, fd, hv, hi2, hfd, k13⟩ hL13
  simp only [List.cons.injEq, Value.int.injEq, Value.bool.injEq, true_and, and_true] at hv
  obtain ⟨rfl, rfl⟩ := hv
  have hn13 := hL13.cells 2 rfl
  have k013 := k012.trans k13
  refine bsp_intro (fun hlt => fun W14 hW14 => ?_) (fun hge => ?_)
  · have hlt : i2 < cs3.length := by simp at hlt; omega
    have k14 : K0 w13 W14 := hW14.kk rfl
    have hn14 := hW14.cells 2 rfl
    have k1214 := k13.trans k14
    have k014 := k013.trans k14
    obtain ⟨x, b3, o3, hx, hpb, hat⟩ := (hrow3.k0 k1214).get hlt
    have hxm := List.mem_of_getElem? hx
    obtain ⟨ox, lx8⟩ := hok3 x hxm
    rw [Int.toNat_natCast]
    refine ⟨fun wx => K0 W14 wx, .refl _ _, nn_is hpb ⟨gimp_intro fun _ => ⟨by omega, by omega⟩, x.d.id, x.d.au, x.d.g, x.d.v, x.d.rm, x.d.md, x.p, x.d.ms.length, x.c, x.d.tx, gimp_intro fun _ wx k => hat.k0 k, m.d.id, m.d.au, m.d.g, m.d.v, m.d.rm, m.d.md, m.p, m.d.ms.length, m.c, m.d.tx, gimp_intro fun _ wx k => AtL_block (k.blk hn14 (fun h => h)) rfl, bsp_intro (fun hnf => ?_) (fun hnf => ?_)⟩⟩
    · refine ⟨(lof_any x W14 ((hM3 x hxm).row.k0 k1214) (by omega)).mono fun e w15 ⟨⟨q2, d2, he, hor⟩, k15⟩ => ⟨_, _, _, _, _, _, _, _, _, _, he, k15, ?_⟩⟩
      refine ⟨(lto_any m w15 (hm.row.k0 (k014.trans k15))).mono fun e w16 ⟨⟨q3, d3, he, hmo3⟩, k16⟩ => ⟨_, _, _, _, _, _, _, _, _, _, he, ?_⟩⟩
      refine ⟨(lof_any ⟨toD m.d, q3, d3⟩ w16 hmo3.row (Nat.le_trans lx (by decide))).mono fun e w17 ⟨⟨q4, d4, he, hor4⟩, k17⟩ => ⟨_, _, _, _, _, _, _, _, _, _, he, ?_⟩⟩
      refine ⟨(xsame_any ⟨x.d, q2, d2⟩ ⟨toD m.d, q4, d4⟩ w17 ((hor.row.k0 k16).k0 k17) hor4.row ox zx (by show x.d.ms.length ≤ _; omega)).mono fun e w18 ⟨he, k18⟩ => ⟨_, he, .of_k0 (((k15.trans k16).trans k17).trans k18), ⟨i2 + 1, _, by rw [inc64 (by omega)], hlt, ?_, (((k1214.trans k15).trans k16).trans k17).trans k18⟩, by rw [inc64 (by omega)]; simp only [Int.toNat_natCast]; omega⟩⟩
      have hfd0 : (cs3.take i2).any (fun x => dEq x.d (toD m.d)) = false := by rw [← hfd]; simpa using hnf
      rw [any_snoc hx, hfd0]
    · refine ⟨.refl _ _, .refl _ _, ⟨i2 + 1, true, by rw [inc64 (by omega)], hlt, ?_, k1214⟩, by rw [inc64 (by omega)]; simp only [Int.toNat_natCast]; omega⟩
      have hfd0 : (cs3.take i2).any (fun x => dEq x.d (toD m.d)) = true := by rw [← hfd]; simpa using hnf
      rw [any_snoc hx, hfd0]; rfl
  have hi2e : i2 = cs3.length := by simp at hge; omega
  have hfdt : y = true := by rw [hfd, hi2e, List.take_length]; exact hfound
  subst hfdt
  refine bsp_intro (fun h => by cases h) (fun _ => ?_)
  have k0E := k013
  have hn2E := hn13
  clear hn13 k013
  rotate_left
  all_goals
    refine ⟨(ncur_any s _).mono fun e wa ⟨he, ka⟩ => ⟨_, _, _, _, _, _, _, _, _, _, _, he, .of_k0 ka, fun n11 Wb hWb => ?_⟩⟩
    have kb : K0 wa Wb := hWb.kk rfl
    have hnb := (ka.trans kb).blk hn2E (fun h => h)
    have k0b := (k0E.trans ka).trans kb
    refine ⟨(nadd_any ⟨toD m.d, q, cq⟩ Wb).mono fun e w1 ⟨he, k1⟩ => ⟨_, he, .of_k0 k1, m.d.id, gimp_intro fun _ => AtL_block (k1.blk hnb (fun h => h)) rfl, bsp_intro (fun _ => ?_) (fun h => by cases h)⟩⟩
    refine ⟨(ndrop_any m.d.id w1).mono fun e w2 ⟨he, k2⟩ => ⟨_, he, .of_k0 k2, bsp_intro (fun _ => ?_) (fun h => by cases h)⟩⟩
    have k12 := k1.trans k2
    refine ⟨(nmod_any s w2).mono fun e w3 ⟨he, k3⟩ => ⟨_, he, .of_k0 k3, m.d.au, gimp_intro fun _ => AtL_block ((k12.trans k3).blk hnb (fun h => h)) rfl, bsp_intro (fun _ => ?_) (fun h => by cases h)⟩⟩
    have k13 := k12.trans k3
    refine ⟨(never_any s m.d.au w3).mono fun e w4 ⟨he, k4⟩ => ⟨_, he, .of_k0 k4, m.d.au, gimp_intro fun _ => AtL_block ((k13.trans k4).blk hnb (fun h => h)) rfl, bsp_intro (fun _ => ?_) (fun h => by cases h)⟩⟩
    refine ⟨(nisauth_any s m.d.au w4).mono fun e w5 ⟨he, k5⟩ => ⟨_, he, .of_k0 k5, bsp_intro (fun _ => ?_) (fun h => by cases h)⟩⟩
    refine ⟨(ngroups_any w5).mono fun e w6 ⟨he, k6⟩ => ⟨_, _, _, he, .of_k0 k6, bsp_intro (fun _ => ?_) (fun h => by cases h)⟩⟩
    refine ⟨(nselect_any none w6).mono fun e w7 ⟨he, k7⟩ => ⟨_, _, _, he, .of_k0 k7, bsp_intro (fun _ => ?_) (fun h => by cases h)⟩⟩
    refine ⟨(nvers_any s w7).mono fun e w8 ⟨he, k8⟩ => ⟨_, _, _, he, .of_k0 k8, bsp_intro (fun _ => ?_) (fun h => by cases h)⟩⟩
    refine ⟨(nlen_any w8).mono fun e w9 ⟨he, k9⟩ => ⟨_, he, .of_k0 k9, bsp_intro (fun _ => ?_) (fun h => by cases h)⟩⟩
    refine ⟨(rclone_nil w9).mono fun e w10 ⟨he, k10⟩ => ⟨_, he, .of_k0 k10, bsp_intro (fun _ => ?_) (fun h => by cases h)⟩⟩
    refine ⟨(requal_nil none w10).mono fun e w11 ⟨he, k11⟩ => ⟨_, he, .of_k0 k11, bsp_intro (fun _ => ?_) (fun h => by cases h)⟩⟩
    exact ⟨(requal_nil _ w11).mono fun e w12 ⟨he, k12'⟩ => ⟨_, he, .of_k0 k12', rfl, (((((((((k0b.trans k13).trans k4).trans k5).trans k6).trans k7).trans k8).trans k9).trans k10).trans k11).trans k12'⟩⟩

end Go.Proofs.YtkkfnlehlkiejaaGreatDoor
