/- The formulas of functions by the symbolic evaluator, and that each gives the call's contract. Written by a program (gen.py). No condition. -/
import Derived.Test.YtmlmdljnfokebaaDoorProg
import Derived.Test.YtmlmdljnfokebaaDoorZ02
import Derived.Test.YtmlmdljnfokebaaDoorZ05
import Derived.Test.YtmlmdljnfokebaaDoorZ04
import Derived.KernelRfl
import Derived.Test.YtmlmdljnfokebaaDoorZ11
import Derived.Test.YtmlmdljnfokebaaDoorZ08
import Derived.StringKeys
namespace Go.Proofs.YtmlmdljnfokebaaDoor
set_option maxRecDepth 100000
set_option linter.unusedVariables false

def VC_lpass (fu : ByteArray) (fs : ByteArray) (tu : ByteArray) (ts : ByteArray) (n : Int) (d : Int) (sj : ByteArray) (hp : Option Addr) (hn : Nat) (hc : Nat) (bd : ByteArray) (s : ByteArray) (w : World) (R : Ending → World → Prop) : Prop :=
 ∀ (n_1 : Nat) (W : World),
 Loc w.heap.size
 [Blk.mk n_1 26
 [Value.string fu, Value.string fs, Value.string tu, Value.string ts, Value.int IntKind.i64 n,
 Value.int IntKind.i64 d, Value.string sj, Value.slice hp hn hc, Value.string bd]
 2]
 w W →
 CallsS Tryd.prog 8
 #[Value.agg
 #[Value.string fu, Value.string fs, Value.string tu, Value.string ts, Value.int IntKind.i64 n,
 Value.int IntKind.i64 d, Value.string sj, Value.slice hp hn hc, Value.string bd]]
 W fun (e : Ending) (w' : World) =>
 ∃ (x : ByteArray),
 ∃ (x_1 : ByteArray),
 ∃ (x_2 : ByteArray),
 ∃ (x_3 : ByteArray),
 ∃ (x_4 : Int),
 ∃ (x_5 : Int),
 ∃ (x_6 : ByteArray),
 ∃ (p : Option Addr),
 ∃ (n_2 : Nat),
 ∃ (c : Nat),
 ∃ (x_7 : ByteArray),
 e =
 Ending.returned
 (Value.agg
 #[Value.string x, Value.string x_1, Value.string x_2, Value.string x_3, Value.int IntKind.i64 x_4,
 Value.int IntKind.i64 x_5, Value.string x_6, Value.slice p n_2 c, Value.string x_7]) ∧
 KeptL [n_1] W w' ∧
 ∀ (n_3 : Nat),
 ((0 ≤ if 60 < (↑s.size : Int) then 60 else (↑s.size : Int)) ∧
 (if 60 < (↑s.size : Int) then 60 else (↑s.size : Int)) ≤ (↑s.size : Int)) ∧
 ∀ (W : World),
 Loc w.heap.size
 [Blk.mk n_3 29
 [Value.string x, Value.string x_1, Value.string x_2, Value.string x_3, Value.int IntKind.i64 x_4,
 Value.int IntKind.i64 x_5, Value.string x_6, Value.slice p n_2 c, Value.string x_7]
 (wrM 2),
 Blk.mk n_1 26
 [Value.string fu, Value.string fs, Value.string tu, Value.string ts, Value.int IntKind.i64 n,
 Value.int IntKind.i64 d, Value.string sj, Value.slice hp hn hc, Value.string bd]
 0]
 w' W →
 CallsS Tryd.prog 17
 #[Value.agg
 #[Value.string x, Value.string x_1, Value.string x_2, Value.string x_3,
 Value.int IntKind.i64 x_4, Value.int IntKind.i64 x_5, Value.string x_6, Value.slice p n_2 c,
 Value.string x_7],
 Value.string (s.extract 0 (if 60 < (↑s.size : Int) then 60 else (↑s.size : Int)).toNat)]
 W fun (e : Ending) (w' : World) =>
 ∃ (x_8 : ByteArray),
 ∃ (x_9 : ByteArray),
 ∃ (x_10 : ByteArray),
 ∃ (x_11 : ByteArray),
 ∃ (x_12 : Int),
 ∃ (x_13 : Int),
 ∃ (x_14 : ByteArray),
 ∃ (p_1 : Option Addr),
 ∃ (n_4 : Nat),
 ∃ (c_1 : Nat),
 ∃ (x_15 : ByteArray),
 ∃ (x_16 : Int),
 e =
 Ending.returned
 (Value.tuple
 #[Value.agg
 #[Value.string x_8, Value.string x_9, Value.string x_10, Value.string x_11,
 Value.int IntKind.i64 x_12, Value.int IntKind.i64 x_13, Value.string x_14,
 Value.slice p_1 n_4 c_1, Value.string x_15],
 Value.int IntKind.i64 x_16]) ∧
 KeptL [n_3, n_1] W w' ∧
 ∀ (n_5 : Nat) (W : World),
 Loc w.heap.size
 [Blk.mk n_5 29
 [Value.string x_8, Value.string x_9, Value.string x_10, Value.string x_11,
 Value.int IntKind.i64 x_12, Value.int IntKind.i64 x_13, Value.string x_14,
 Value.slice p_1 n_4 c_1, Value.string x_15]
 (wrM 2),
 Blk.mk n_3 29
 [Value.string x, Value.string x_1, Value.string x_2, Value.string x_3,
 Value.int IntKind.i64 x_4, Value.int IntKind.i64 x_5, Value.string x_6,
 Value.slice p n_2 c, Value.string x_7]
 0,
 Blk.mk n_1 26
 [Value.string fu, Value.string fs, Value.string tu, Value.string ts,
 Value.int IntKind.i64 n, Value.int IntKind.i64 d, Value.string sj,
 Value.slice hp hn hc, Value.string bd]
 0]
 w' W →
 CallsS Tryd.prog 11
 #[Value.agg
 #[Value.string x, Value.string x_1, Value.string x_2, Value.string x_3,
 Value.int IntKind.i64 x_4, Value.int IntKind.i64 x_5, Value.string x_6,
 Value.slice p n_2 c, Value.string x_7]]
 W fun (e : Ending) (w' : World) =>
 ∃ (x_17 : ByteArray),
 ∃ (x_18 : ByteArray),
 ∃ (x_19 : ByteArray),
 ∃ (x_20 : ByteArray),
 ∃ (x_21 : Int),
 ∃ (x_22 : Int),
 ∃ (x_23 : ByteArray),
 ∃ (p_2 : Option Addr),
 ∃ (n_6 : Nat),
 ∃ (c_2 : Nat),
 ∃ (x_24 : ByteArray),
 e =
 Ending.returned
 (Value.agg
 #[Value.string x_17, Value.string x_18, Value.string x_19,
 Value.string x_20, Value.int IntKind.i64 x_21,
 Value.int IntKind.i64 x_22, Value.string x_23,
 Value.slice p_2 n_6 c_2, Value.string x_24]) ∧
 KeptL [n_5, n_3, n_1] W w' ∧
 CallsS Tryd.prog 18
 #[Value.agg
 #[Value.string x_17, Value.string x_18, Value.string x_19,
 Value.string x_20, Value.int IntKind.i64 x_21,
 Value.int IntKind.i64 x_22, Value.string x_23,
 Value.slice p_2 n_6 c_2, Value.string x_24],
 Value.string
 (s.extract 0
 (if 60 < (↑s.size : Int) then 60 else (↑s.size : Int)).toNat)]
 w' fun (e : Ending) (w'_1 : World) =>
 ∃ (x_25 : ByteArray),
 ∃ (x_26 : ByteArray),
 ∃ (x_27 : ByteArray),
 ∃ (x_28 : ByteArray),
 ∃ (x_29 : Int),
 ∃ (x_30 : Int),
 ∃ (x_31 : ByteArray),
 ∃ (p_3 : Option Addr),
 ∃ (n_7 : Nat),
 ∃ (c_3 : Nat),
 ∃ (x_32 : ByteArray),
 ∃ (x_33 : Int),
 e =
 Ending.returned
 (Value.tuple
 #[Value.agg
 #[Value.string x_25, Value.string x_26,
 Value.string x_27, Value.string x_28,
 Value.int IntKind.i64 x_29,
 Value.int IntKind.i64 x_30, Value.string x_31,
 Value.slice p_3 n_7 c_3, Value.string x_32],
 Value.int IntKind.i64 x_33]) ∧
 KeptL [n_5, n_3, n_1] w' w'_1 ∧
 ∀ (n_8 : Nat) (W : World),
 Loc w.heap.size
 [Blk.mk n_8 26
 [Value.string x_25, Value.string x_26,
 Value.string x_27, Value.string x_28,
 Value.int IntKind.i64 x_29,
 Value.int IntKind.i64 x_30, Value.string x_31,
 Value.slice p_3 n_7 c_3, Value.string x_32]
 (wrM 2),
 Blk.mk n_5 29
 [Value.string x_8, Value.string x_9,
 Value.string x_10, Value.string x_11,
 Value.int IntKind.i64 x_12,
 Value.int IntKind.i64 x_13, Value.string x_14,
 Value.slice p_1 n_4 c_1, Value.string x_15]
 0,
 Blk.mk n_3 29
 [Value.string x, Value.string x_1,
 Value.string x_2, Value.string x_3,
 Value.int IntKind.i64 x_4,
 Value.int IntKind.i64 x_5, Value.string x_6,
 Value.slice p n_2 c, Value.string x_7]
 0,
 Blk.mk n_1 26
 [Value.string fu, Value.string fs,
 Value.string tu, Value.string ts,
 Value.int IntKind.i64 n,
 Value.int IntKind.i64 d, Value.string sj,
 Value.slice hp hn hc, Value.string bd]
 0]
 w'_1 W →
 ∃ (I : List Value → World → Prop),
 ∃ (m : List Value → World → Nat),
 I [Value.int IntKind.i64 0] W ∧
 ∀ (x_34 : Int) (w' : World),
 I [Value.int IntKind.i64 x_34] w' →
 Loc w.heap.size
 [Blk.mk n_8 26
 [Value.string x_25, Value.string x_26,
 Value.string x_27, Value.string x_28,
 Value.int IntKind.i64 x_29,
 Value.int IntKind.i64 x_30,
 Value.string x_31,
 Value.slice p_3 n_7 c_3,
 Value.string x_32]
 0,
 Blk.mk n_5 29
 [Value.string x_8, Value.string x_9,
 Value.string x_10, Value.string x_11,
 Value.int IntKind.i64 x_12,
 Value.int IntKind.i64 x_13,
 Value.string x_14,
 Value.slice p_1 n_4 c_1,
 Value.string x_15]
 0,
 Blk.mk n_3 29
 [Value.string x, Value.string x_1,
 Value.string x_2, Value.string x_3,
 Value.int IntKind.i64 x_4,
 Value.int IntKind.i64 x_5,
 Value.string x_6, Value.slice p n_2 c,
 Value.string x_7]
 0,
 Blk.mk n_1 26
 [Value.string fu, Value.string fs,
 Value.string tu, Value.string ts,
 Value.int IntKind.i64 n,
 Value.int IntKind.i64 d, Value.string sj,
 Value.slice hp hn hc, Value.string bd]
 0]
 w' w' →
 bsp
 (decide (x_34 < (↑n_4 : Int)) && x_16 == 0)
 (nn true p_1 fun (b o : Nat) =>
 (0 ≤ x_34 ∧ x_34 < (↑n_4 : Int)) ∧
 ∃ (x_35 : ByteArray),
 (∀ (W : World),
 Loc w.heap.size
 [Blk.mk n_8 26
 [Value.string x_25,
 Value.string x_26,
 Value.string x_27,
 Value.string x_28,
 Value.int IntKind.i64 x_29,
 Value.int IntKind.i64 x_30,
 Value.string x_31,
 Value.slice p_3 n_7 c_3,
 Value.string x_32]
 0,
 Blk.mk n_5 29
 [Value.string x_8, Value.string x_9,
 Value.string x_10,
 Value.string x_11,
 Value.int IntKind.i64 x_12,
 Value.int IntKind.i64 x_13,
 Value.string x_14,
 Value.slice p_1 n_4 c_1,
 Value.string x_15]
 0,
 Blk.mk n_3 29
 [Value.string x, Value.string x_1,
 Value.string x_2, Value.string x_3,
 Value.int IntKind.i64 x_4,
 Value.int IntKind.i64 x_5,
 Value.string x_6,
 Value.slice p n_2 c,
 Value.string x_7]
 0,
 Blk.mk n_1 26
 [Value.string fu, Value.string fs,
 Value.string tu, Value.string ts,
 Value.int IntKind.i64 n,
 Value.int IntKind.i64 d,
 Value.string sj,
 Value.slice hp hn hc,
 Value.string bd]
 0]
 w' W →
 W.cell?
 (Addr.mk b (o + x_34.toNat) none) =
 some (Value.string x_35)) ∧
 nn true p_3 fun (b o : Nat) =>
 (0 ≤ x_34 ∧ x_34 < (↑n_7 : Int)) ∧
 ∃ (x_36 : ByteArray),
 (∀ (W : World),
 Loc w.heap.size
 [Blk.mk n_8 26
 [Value.string x_25,
 Value.string x_26,
 Value.string x_27,
 Value.string x_28,
 Value.int IntKind.i64 x_29,
 Value.int IntKind.i64 x_30,
 Value.string x_31,
 Value.slice p_3 n_7 c_3,
 Value.string x_32]
 0,
 Blk.mk n_5 29
 [Value.string x_8,
 Value.string x_9,
 Value.string x_10,
 Value.string x_11,
 Value.int IntKind.i64 x_12,
 Value.int IntKind.i64 x_13,
 Value.string x_14,
 Value.slice p_1 n_4 c_1,
 Value.string x_15]
 0,
 Blk.mk n_3 29
 [Value.string x,
 Value.string x_1,
 Value.string x_2,
 Value.string x_3,
 Value.int IntKind.i64 x_4,
 Value.int IntKind.i64 x_5,
 Value.string x_6,
 Value.slice p n_2 c,
 Value.string x_7]
 0,
 Blk.mk n_1 26
 [Value.string fu,
 Value.string fs,
 Value.string tu,
 Value.string ts,
 Value.int IntKind.i64 n,
 Value.int IntKind.i64 d,
 Value.string sj,
 Value.slice hp hn hc,
 Value.string bd]
 0]
 w' W →
 W.cell?
 (Addr.mk b (o + x_34.toNat)
 none) =
 some (Value.string x_36)) ∧
 bsp (!x_35.toList == x_36.toList)
 (∀ (W : World),
 Loc w.heap.size
 [Blk.mk n_8 26
 [Value.string x_25,
 Value.string x_26,
 Value.string x_27,
 Value.string x_28,
 Value.int IntKind.i64 x_29,
 Value.int IntKind.i64 x_30,
 Value.string x_31,
 Value.slice p_3 n_7 c_3,
 Value.string x_32]
 0,
 Blk.mk n_5 29
 [Value.string x_8,
 Value.string x_9,
 Value.string x_10,
 Value.string x_11,
 Value.int IntKind.i64 x_12,
 Value.int IntKind.i64 x_13,
 Value.string x_14,
 Value.slice p_1 n_4 c_1,
 Value.string x_15]
 0,
 Blk.mk n_3 29
 [Value.string x,
 Value.string x_1,
 Value.string x_2,
 Value.string x_3,
 Value.int IntKind.i64 x_4,
 Value.int IntKind.i64 x_5,
 Value.string x_6,
 Value.slice p n_2 c,
 Value.string x_7]
 0,
 Blk.mk n_1 26
 [Value.string fu,
 Value.string fs,
 Value.string tu,
 Value.string ts,
 Value.int IntKind.i64 n,
 Value.int IntKind.i64 d,
 Value.string sj,
 Value.slice hp hn hc,
 Value.string bd]
 0]
 w' W →
 R
 (Ending.returned
 (Value.bool false))
 W)
 (nn true p_1 fun (b o : Nat) =>
 (0 ≤ x_34 ∧ x_34 < (↑n_4 : Int)) ∧
 ∀ (W : World),
 Loc w.heap.size
 [Blk.mk n_8 26
 [Value.string x_25,
 Value.string x_26,
 Value.string x_27,
 Value.string x_28,
 Value.int IntKind.i64 x_29,
 Value.int IntKind.i64 x_30,
 Value.string x_31,
 Value.slice p_3 n_7 c_3,
 Value.string x_32]
 0,
 Blk.mk n_5 29
 [Value.string x_8,
 Value.string x_9,
 Value.string x_10,
 Value.string x_11,
 Value.int IntKind.i64 x_12,
 Value.int IntKind.i64 x_13,
 Value.string x_14,
 Value.slice p_1 n_4 c_1,
 Value.string x_15]
 0,
 Blk.mk n_3 29
 [Value.string x,
 Value.string x_1,
 Value.string x_2,
 Value.string x_3,
 Value.int IntKind.i64 x_4,
 Value.int IntKind.i64 x_5,
 Value.string x_6,
 Value.slice p n_2 c,
 Value.string x_7]
 0,
 Blk.mk n_1 26
 [Value.string fu,
 Value.string fs,
 Value.string tu,
 Value.string ts,
 Value.int IntKind.i64 n,
 Value.int IntKind.i64 d,
 Value.string sj,
 Value.slice hp hn hc,
 Value.string bd]
 0]
 w' W →
 ((∃ (u : Value),
 W.cell?
 (Addr.mk b (o + x_34.toNat)
 none) =
 some u) ∧
 W.frozen?
 (Addr.mk b (o + x_34.toNat)
 none) =
 false) ∧
 ∀ (w1 : World),
 PutB W b (o + x_34.toNat)
 [Value.string
 (ByteArray.mk
 #[99, 104, 97, 110, 103,
 101, 100])]
 w1 →
 KeptL [n_8, n_5, n_3, n_1] W
 w1 ∧
 I
 [Value.int IntKind.i64
 (IntKind.i64.wrap
 (x_34 + 1))]
 w1 ∧
 m
 [Value.int IntKind.i64
 (IntKind.i64.wrap
 (x_34 + 1))]
 w1 <
 m
 [Value.int IntKind.i64
 x_34]
 w'))
 (∀ (W : World),
 Loc w.heap.size
 [Blk.mk n_8 26
 [Value.string x_25, Value.string x_26,
 Value.string x_27, Value.string x_28,
 Value.int IntKind.i64 x_29,
 Value.int IntKind.i64 x_30,
 Value.string x_31,
 Value.slice none 0 0,
 Value.string x_32]
 (wrM 0),
 Blk.mk n_5 29
 [Value.string x_8, Value.string x_9,
 Value.string x_10, Value.string x_11,
 Value.int IntKind.i64 x_12,
 Value.int IntKind.i64 x_13,
 Value.string x_14,
 Value.slice none 0 0,
 Value.string x_15]
 (wrM 0),
 Blk.mk n_3 29
 [Value.string x, Value.string x_1,
 Value.string x_2, Value.string x_3,
 Value.int IntKind.i64 x_4,
 Value.int IntKind.i64 x_5,
 Value.string x_6, Value.slice p n_2 c,
 Value.string x_7]
 0,
 Blk.mk n_1 26
 [Value.string fu, Value.string fs,
 Value.string tu, Value.string ts,
 Value.int IntKind.i64 n,
 Value.int IntKind.i64 d,
 Value.string sj, Value.slice hp hn hc,
 Value.string bd]
 0]
 w' W →
 ∃ (S : World → Prop),
 S W ∧
 CallsS Tryd.prog 13 #[] W
 fun (e : Ending) (w' : World) =>
 ∃ (x : Bool),
 e = Ending.returned (Value.bool x) ∧
 S w' ∧
 ∃ (x_35 : ByteArray),
 ∃ (x_36 : ByteArray),
 ∃ (x_37 : ByteArray),
 ∃ (x_38 : ByteArray),
 ∃ (x_39 : Int),
 ∃ (x_40 : Int),
 ∃ (x_41 : ByteArray),
 ∃ (p : Option Addr),
 ∃ (n : Nat),
 ∃ (c : Nat),
 ∃ (x_42 : ByteArray),
 gimp (x && x_16 == x_33)
 (∀ (w' : World),
 S w' →
 AtL w' n_5 0
 [Value.string x_35,
 Value.string x_36,
 Value.string x_37,
 Value.string x_38,
 Value.int
 IntKind.i64 x_39,
 Value.int
 IntKind.i64 x_40,
 Value.string x_41,
 Value.slice p n c,
 Value.string
 x_42]) ∧
 ∃ (x_43 : ByteArray),
 ∃ (x_44 : ByteArray),
 ∃ (x_45 : ByteArray),
 ∃ (x_46 : ByteArray),
 ∃ (x_47 : Int),
 ∃ (x_48 : Int),
 ∃ (x_49 :
 ByteArray),
 ∃ (p_4 :
 Option Addr),
 ∃ (n_9 : Nat),
 ∃ (c_4 : Nat),
 ∃ (x_50 :
 ByteArray),
 gimp
 (x &&
 x_16 ==
 x_33)
 (∀
 (w' :
 World),
 S w' →
 AtL w' n_8
 0
 [Value.string
 x_43,
 Value.string
 x_44,
 Value.string
 x_45,
 Value.string
 x_46,
 Value.int
 IntKind.i64
 x_47,
 Value.int
 IntKind.i64
 x_48,
 Value.string
 x_49,
 Value.slice
 p_4 n_9
 c_4,
 Value.string
 x_50]) ∧
 bsp
 (x &&
 x_16 ==
 x_33)
 (CallsS
 Tryd.prog
 11
 #[Value.agg
 #[Value.string
 x_35,
 Value.string
 x_36,
 Value.string
 x_37,
 Value.string
 x_38,
 Value.int
 IntKind.i64
 x_39,
 Value.int
 IntKind.i64
 x_40,
 Value.string
 x_41,
 Value.slice
 p n c,
 Value.string
 x_42]]
 w'
 fun
 (e :
 Ending)
 (w' :
 World) =>
 ∃ (x :
 ByteArray),
 ∃ (x_51 :
 ByteArray),
 ∃ (x_52 :
 ByteArray),
 ∃ (x_53
 :
 ByteArray),
 ∃ (x_54
 :
 Int),
 ∃
 (x_55
 :
 Int),
 ∃
 (x_56
 :
 ByteArray),
 ∃ (p
 :
 Option
 Addr),
 ∃
 (n
 :
 Nat),
 ∃
 (c
 :
 Nat),
 ∃
 (x_57
 :
 ByteArray),
 e =
 Ending.returned
 (Value.agg
 #[Value.string
 x,
 Value.string
 x_51,
 Value.string
 x_52,
 Value.string
 x_53,
 Value.int
 IntKind.i64
 x_54,
 Value.int
 IntKind.i64
 x_55,
 Value.string
 x_56,
 Value.slice
 p
 n
 c,
 Value.string
 x_57]) ∧
 S
 w' ∧
 CallsS
 Tryd.prog
 12
 #[Value.agg
 #[Value.string
 x,
 Value.string
 x_51,
 Value.string
 x_52,
 Value.string
 x_53,
 Value.int
 IntKind.i64
 x_54,
 Value.int
 IntKind.i64
 x_55,
 Value.string
 x_56,
 Value.slice
 p
 n
 c,
 Value.string
 x_57],
 Value.agg
 #[Value.string
 x_43,
 Value.string
 x_44,
 Value.string
 x_45,
 Value.string
 x_46,
 Value.int
 IntKind.i64
 x_47,
 Value.int
 IntKind.i64
 x_48,
 Value.string
 x_49,
 Value.slice
 p_4
 n_9
 c_4,
 Value.string
 x_50]]
 w'
 fun
 (e :
 Ending)
 (w' :
 World) =>
 ∃
 (x
 :
 Bool),
 e =
 Ending.returned
 (Value.bool
 x) ∧
 S
 w' ∧
 ∃
 (x_58
 :
 ByteArray),
 ∃
 (x_59
 :
 ByteArray),
 ∃
 (x_60
 :
 ByteArray),
 ∃
 (x_61
 :
 ByteArray),
 ∃
 (x_62
 :
 Int),
 ∃
 (x_63
 :
 Int),
 ∃
 (x_64
 :
 ByteArray),
 ∃
 (p
 :
 Option
 Addr),
 ∃
 (n
 :
 Nat),
 ∃
 (c
 :
 Nat),
 ∃
 (x_65
 :
 ByteArray),
 gimp
 (true &&
 x)
 (∀
 (w' :
 World),
 S
 w' →
 AtL
 w'
 n_3
 0
 [Value.string
 x_58,
 Value.string
 x_59,
 Value.string
 x_60,
 Value.string
 x_61,
 Value.int
 IntKind.i64
 x_62,
 Value.int
 IntKind.i64
 x_63,
 Value.string
 x_64,
 Value.slice
 p
 n
 c,
 Value.string
 x_65]) ∧
 ∃
 (x_66
 :
 ByteArray),
 ∃
 (x_67
 :
 ByteArray),
 ∃
 (x_68
 :
 ByteArray),
 ∃
 (x_69
 :
 ByteArray),
 ∃
 (x_70
 :
 Int),
 ∃
 (x_71
 :
 Int),
 ∃
 (x_72
 :
 ByteArray),
 ∃
 (p_5
 :
 Option
 Addr),
 ∃
 (n_10
 :
 Nat),
 ∃
 (c_5
 :
 Nat),
 ∃
 (x_73
 :
 ByteArray),
 gimp
 (true &&
 x)
 (∀
 (w' :
 World),
 S
 w' →
 AtL
 w'
 n_1
 0
 [Value.string
 x_66,
 Value.string
 x_67,
 Value.string
 x_68,
 Value.string
 x_69,
 Value.int
 IntKind.i64
 x_70,
 Value.int
 IntKind.i64
 x_71,
 Value.string
 x_72,
 Value.slice
 p_5
 n_10
 c_5,
 Value.string
 x_73]) ∧
 bsp
 (true &&
 x)
 (CallsS
 Tryd.prog
 11
 #[Value.agg
 #[Value.string
 x_58,
 Value.string
 x_59,
 Value.string
 x_60,
 Value.string
 x_61,
 Value.int
 IntKind.i64
 x_62,
 Value.int
 IntKind.i64
 x_63,
 Value.string
 x_64,
 Value.slice
 p
 n
 c,
 Value.string
 x_65]]
 w'
 fun
 (e :
 Ending)
 (w' :
 World) =>
 ∃
 (x
 :
 ByteArray),
 ∃
 (x_74
 :
 ByteArray),
 ∃
 (x_75
 :
 ByteArray),
 ∃
 (x_76
 :
 ByteArray),
 ∃
 (x_77
 :
 Int),
 ∃
 (x_78
 :
 Int),
 ∃
 (x_79
 :
 ByteArray),
 ∃
 (p
 :
 Option
 Addr),
 ∃
 (n
 :
 Nat),
 ∃
 (c
 :
 Nat),
 ∃
 (x_80
 :
 ByteArray),
 e =
 Ending.returned
 (Value.agg
 #[Value.string
 x,
 Value.string
 x_74,
 Value.string
 x_75,
 Value.string
 x_76,
 Value.int
 IntKind.i64
 x_77,
 Value.int
 IntKind.i64
 x_78,
 Value.string
 x_79,
 Value.slice
 p
 n
 c,
 Value.string
 x_80]) ∧
 S
 w' ∧
 CallsS
 Tryd.prog
 8
 #[Value.agg
 #[Value.string
 x_66,
 Value.string
 x_67,
 Value.string
 x_68,
 Value.string
 x_69,
 Value.int
 IntKind.i64
 x_70,
 Value.int
 IntKind.i64
 x_71,
 Value.string
 x_72,
 Value.slice
 p_5
 n_10
 c_5,
 Value.string
 x_73]]
 w'
 fun
 (e :
 Ending)
 (w' :
 World) =>
 ∃
 (x_81
 :
 ByteArray),
 ∃
 (x_82
 :
 ByteArray),
 ∃
 (x_83
 :
 ByteArray),
 ∃
 (x_84
 :
 ByteArray),
 ∃
 (x_85
 :
 Int),
 ∃
 (x_86
 :
 Int),
 ∃
 (x_87
 :
 ByteArray),
 ∃
 (p_6
 :
 Option
 Addr),
 ∃
 (n_11
 :
 Nat),
 ∃
 (c_6
 :
 Nat),
 ∃
 (x_88
 :
 ByteArray),
 e =
 Ending.returned
 (Value.agg
 #[Value.string
 x_81,
 Value.string
 x_82,
 Value.string
 x_83,
 Value.string
 x_84,
 Value.int
 IntKind.i64
 x_85,
 Value.int
 IntKind.i64
 x_86,
 Value.string
 x_87,
 Value.slice
 p_6
 n_11
 c_6,
 Value.string
 x_88]) ∧
 CallsS
 Tryd.prog
 11
 #[Value.agg
 #[Value.string
 x_81,
 Value.string
 x_82,
 Value.string
 x_83,
 Value.string
 x_84,
 Value.int
 IntKind.i64
 x_85,
 Value.int
 IntKind.i64
 x_86,
 Value.string
 x_87,
 Value.slice
 p_6
 n_11
 c_6,
 Value.string
 x_88]]
 w'
 fun
 (e :
 Ending)
 (w' :
 World) =>
 ∃
 (x_89
 :
 ByteArray),
 ∃
 (x_90
 :
 ByteArray),
 ∃
 (x_91
 :
 ByteArray),
 ∃
 (x_92
 :
 ByteArray),
 ∃
 (x_93
 :
 Int),
 ∃
 (x_94
 :
 Int),
 ∃
 (x_95
 :
 ByteArray),
 ∃
 (p_7
 :
 Option
 Addr),
 ∃
 (n_12
 :
 Nat),
 ∃
 (c_7
 :
 Nat),
 ∃
 (x_96
 :
 ByteArray),
 e =
 Ending.returned
 (Value.agg
 #[Value.string
 x_89,
 Value.string
 x_90,
 Value.string
 x_91,
 Value.string
 x_92,
 Value.int
 IntKind.i64
 x_93,
 Value.int
 IntKind.i64
 x_94,
 Value.string
 x_95,
 Value.slice
 p_7
 n_12
 c_7,
 Value.string
 x_96]) ∧
 CallsS
 Tryd.prog
 12
 #[Value.agg
 #[Value.string
 x,
 Value.string
 x_74,
 Value.string
 x_75,
 Value.string
 x_76,
 Value.int
 IntKind.i64
 x_77,
 Value.int
 IntKind.i64
 x_78,
 Value.string
 x_79,
 Value.slice
 p
 n
 c,
 Value.string
 x_80],
 Value.agg
 #[Value.string
 x_89,
 Value.string
 x_90,
 Value.string
 x_91,
 Value.string
 x_92,
 Value.int
 IntKind.i64
 x_93,
 Value.int
 IntKind.i64
 x_94,
 Value.string
 x_95,
 Value.slice
 p_7
 n_12
 c_7,
 Value.string
 x_96]]
 w'
 fun
 (e :
 Ending)
 (w' :
 World) =>
 ∃
 (x
 :
 Bool),
 e =
 Ending.returned
 (Value.bool
 x) ∧
 KeptL
 [n_8,
 n_5,
 n_3,
 n_1]
 W
 w' ∧
 R
 (Ending.returned
 (Value.bool
 (true &&
 x)))
 w')
 (S
 w' ∧
 KeptL
 [n_8,
 n_5,
 n_3,
 n_1]
 W
 w' ∧
 R
 (Ending.returned
 (Value.bool
 false))
 w'))
 (S w' ∧
 S w' ∧
 ∃ (x :
 ByteArray),
 ∃ (x :
 ByteArray),
 ∃ (x :
 ByteArray),
 ∃ (x :
 ByteArray),
 ∃ (x :
 Int),
 ∃ (x
 :
 Int),
 ∃ (x
 :
 ByteArray),
 ∃
 (p
 :
 Option
 Addr),
 ∃
 (n
 :
 Nat),
 ∃
 (c
 :
 Nat),
 ∃
 (x
 :
 ByteArray),
 True ∧
 ∃
 (x
 :
 ByteArray),
 ∃
 (x
 :
 ByteArray),
 ∃
 (x
 :
 ByteArray),
 ∃
 (x
 :
 ByteArray),
 ∃
 (x
 :
 Int),
 ∃
 (x
 :
 Int),
 ∃
 (x
 :
 ByteArray),
 ∃
 (p
 :
 Option
 Addr),
 ∃
 (n
 :
 Nat),
 ∃
 (c
 :
 Nat),
 ∃
 (x
 :
 ByteArray),
 True ∧
 S
 w' ∧
 KeptL
 [n_8,
 n_5,
 n_3,
 n_1]
 W
 w' ∧
 R
 (Ending.returned
 (Value.bool
 false))
 w'))
theorem vc_lpass (fu : ByteArray) (fs : ByteArray) (tu : ByteArray) (ts : ByteArray) (n : Int) (d : Int) (sj : ByteArray) (hp : Option Addr) (hn : Nat) (hc : Nat) (bd : ByteArray) (s : ByteArray) (w : World) (R : Ending → World → Prop) (h : VC_lpass fu fs tu ts n d sj hp hn hc bd s w R) : Calls Tryd.prog 5 ([Value.agg
    #[Value.string fu, Value.string fs, Value.string tu, Value.string ts, Value.int IntKind.i64 n,
      Value.int IntKind.i64 d, Value.string sj, Value.slice hp hn hc, Value.string bd],
  Value.string s] : List Value).toArray w R := by
  have e : execR2 { P := Tryd.prog, loops := [(6, [(10, Ck.int IntKind.i64)])], pur := purM, tails := [(12, 0)], joins := [], boxes := [] } Tryd.f5.results.toList R (Tryd.f5.body.getD .skip) (initF [Value.agg
    #[Value.string fu, Value.string fs, Value.string tu, Value.string ts, Value.int IntKind.i64 n,
      Value.int IntKind.i64 d, Value.string sj, Value.slice hp hn hc, Value.string bd],
  Value.string
    s] (Tryd.f5.ntmps - ([Value.agg
    #[Value.string fu, Value.string fs, Value.string tu, Value.string ts, Value.int IntKind.i64 n,
      Value.int IntKind.i64 d, Value.string sj, Value.slice hp hn hc, Value.string bd],
  Value.string s] : List Value).length)) w = VC_lpass fu fs tu ts n d sj hp hn hc bd s w R := by kernel_rfl
  have hb : Tryd.f5.body = some (Tryd.f5.body.getD .skip) := by kernel_rfl
  exact calls_of_exec2' (P := Tryd.prog) (fn := Tryd.f5) (c := Tryd.f5.body.getD .skip) (args := [Value.agg
    #[Value.string fu, Value.string fs, Value.string tu, Value.string ts, Value.int IntKind.i64 n,
      Value.int IntKind.i64 d, Value.string sj, Value.slice hp hn hc, Value.string bd],
  Value.string s]) (w := w) (R := R) purM_ok Tryd.func5 hb e h

def VC_lbounce (fu : ByteArray) (fs : ByteArray) (tu : ByteArray) (ts : ByteArray) (n : Int) (d : Int) (sj : ByteArray) (hp : Option Addr) (hn : Nat) (hc : Nat) (bd : ByteArray) (s : ByteArray) (x : Int) (now : Int) (w : World) (R : Ending → World → Prop) : Prop :=
 ∀ (n_1 : Nat) (W : World),
 Loc w.heap.size
 [Blk.mk n_1 26
 [Value.string fu, Value.string fs, Value.string tu, Value.string ts, Value.int IntKind.i64 n,
 Value.int IntKind.i64 d, Value.string sj, Value.slice hp hn hc, Value.string bd]
 2]
 w W →
 CallsS Tryd.prog 8
 #[Value.agg
 #[Value.string fu, Value.string fs, Value.string tu, Value.string ts, Value.int IntKind.i64 n,
 Value.int IntKind.i64 d, Value.string sj, Value.slice hp hn hc, Value.string bd]]
 W fun (e : Ending) (w' : World) =>
 ∃ (x_1 : ByteArray),
 ∃ (x_2 : ByteArray),
 ∃ (x_3 : ByteArray),
 ∃ (x_4 : ByteArray),
 ∃ (x_5 : Int),
 ∃ (x_6 : Int),
 ∃ (x_7 : ByteArray),
 ∃ (p : Option Addr),
 ∃ (n_2 : Nat),
 ∃ (c : Nat),
 ∃ (x_8 : ByteArray),
 e =
 Ending.returned
 (Value.agg
 #[Value.string x_1, Value.string x_2, Value.string x_3, Value.string x_4, Value.int IntKind.i64 x_5,
 Value.int IntKind.i64 x_6, Value.string x_7, Value.slice p n_2 c, Value.string x_8]) ∧
 KeptL [n_1] W w' ∧
 ∀ (n_3 : Nat),
 ((0 ≤ if 60 < (↑s.size : Int) then 60 else (↑s.size : Int)) ∧
 (if 60 < (↑s.size : Int) then 60 else (↑s.size : Int)) ≤ (↑s.size : Int)) ∧
 ∀ (W : World),
 Loc w.heap.size
 [Blk.mk n_3 29
 [Value.string x_1, Value.string x_2, Value.string x_3, Value.string x_4,
 Value.int IntKind.i64 x_5, Value.int IntKind.i64 x_6, Value.string x_7, Value.slice p n_2 c,
 Value.string x_8]
 (wrM 2),
 Blk.mk n_1 26
 [Value.string fu, Value.string fs, Value.string tu, Value.string ts, Value.int IntKind.i64 n,
 Value.int IntKind.i64 d, Value.string sj, Value.slice hp hn hc, Value.string bd]
 0]
 w' W →
 CallsS Tryd.prog 9
 #[Value.agg
 #[Value.string x_1, Value.string x_2, Value.string x_3, Value.string x_4,
 Value.int IntKind.i64 x_5, Value.int IntKind.i64 x_6, Value.string x_7, Value.slice p n_2 c,
 Value.string x_8],
 Value.string (s.extract 0 (if 60 < (↑s.size : Int) then 60 else (↑s.size : Int)).toNat),
 Value.int IntKind.i64 x, Value.int IntKind.i64 now]
 W fun (e : Ending) (w' : World) =>
 ∃ (x_9 : ByteArray),
 ∃ (x_10 : ByteArray),
 ∃ (x_11 : ByteArray),
 ∃ (x_12 : ByteArray),
 ∃ (x_13 : Int),
 ∃ (x_14 : Int),
 ∃ (x_15 : ByteArray),
 ∃ (p_1 : Option Addr),
 ∃ (n_4 : Nat),
 ∃ (c_1 : Nat),
 ∃ (x_16 : ByteArray),
 ∃ (x_17 : Bool),
 e =
 Ending.returned
 (Value.tuple
 #[Value.agg
 #[Value.string x_9, Value.string x_10, Value.string x_11, Value.string x_12,
 Value.int IntKind.i64 x_13, Value.int IntKind.i64 x_14, Value.string x_15,
 Value.slice p_1 n_4 c_1, Value.string x_16],
 Value.bool x_17]) ∧
 KeptL [n_3, n_1] W w' ∧
 ∀ (n_5 : Nat) (W : World),
 Loc w.heap.size
 [Blk.mk n_5 29
 [Value.string x_9, Value.string x_10, Value.string x_11, Value.string x_12,
 Value.int IntKind.i64 x_13, Value.int IntKind.i64 x_14, Value.string x_15,
 Value.slice p_1 n_4 c_1, Value.string x_16]
 (wrM 2),
 Blk.mk n_3 29
 [Value.string x_1, Value.string x_2, Value.string x_3, Value.string x_4,
 Value.int IntKind.i64 x_5, Value.int IntKind.i64 x_6, Value.string x_7,
 Value.slice p n_2 c, Value.string x_8]
 0,
 Blk.mk n_1 26
 [Value.string fu, Value.string fs, Value.string tu, Value.string ts,
 Value.int IntKind.i64 n, Value.int IntKind.i64 d, Value.string sj,
 Value.slice hp hn hc, Value.string bd]
 0]
 w' W →
 CallsS Tryd.prog 11
 #[Value.agg
 #[Value.string x_1, Value.string x_2, Value.string x_3, Value.string x_4,
 Value.int IntKind.i64 x_5, Value.int IntKind.i64 x_6, Value.string x_7,
 Value.slice p n_2 c, Value.string x_8]]
 W fun (e : Ending) (w' : World) =>
 ∃ (x_18 : ByteArray),
 ∃ (x_19 : ByteArray),
 ∃ (x_20 : ByteArray),
 ∃ (x_21 : ByteArray),
 ∃ (x_22 : Int),
 ∃ (x_23 : Int),
 ∃ (x_24 : ByteArray),
 ∃ (p_2 : Option Addr),
 ∃ (n_6 : Nat),
 ∃ (c_2 : Nat),
 ∃ (x_25 : ByteArray),
 e =
 Ending.returned
 (Value.agg
 #[Value.string x_18, Value.string x_19, Value.string x_20,
 Value.string x_21, Value.int IntKind.i64 x_22,
 Value.int IntKind.i64 x_23, Value.string x_24,
 Value.slice p_2 n_6 c_2, Value.string x_25]) ∧
 KeptL [n_5, n_3, n_1] W w' ∧
 CallsS Tryd.prog 10
 #[Value.agg
 #[Value.string x_18, Value.string x_19, Value.string x_20,
 Value.string x_21, Value.int IntKind.i64 x_22,
 Value.int IntKind.i64 x_23, Value.string x_24,
 Value.slice p_2 n_6 c_2, Value.string x_25],
 Value.string
 (s.extract 0
 (if 60 < (↑s.size : Int) then 60 else (↑s.size : Int)).toNat),
 Value.int IntKind.i64 x, Value.int IntKind.i64 now]
 w' fun (e : Ending) (w'_1 : World) =>
 ∃ (x_26 : ByteArray),
 ∃ (x_27 : ByteArray),
 ∃ (x_28 : ByteArray),
 ∃ (x_29 : ByteArray),
 ∃ (x_30 : Int),
 ∃ (x_31 : Int),
 ∃ (x_32 : ByteArray),
 ∃ (p_3 : Option Addr),
 ∃ (n_7 : Nat),
 ∃ (c_3 : Nat),
 ∃ (x_33 : ByteArray),
 ∃ (x_34 : Bool),
 e =
 Ending.returned
 (Value.tuple
 #[Value.agg
 #[Value.string x_26, Value.string x_27,
 Value.string x_28, Value.string x_29,
 Value.int IntKind.i64 x_30,
 Value.int IntKind.i64 x_31, Value.string x_32,
 Value.slice p_3 n_7 c_3, Value.string x_33],
 Value.bool x_34]) ∧
 KeptL [n_5, n_3, n_1] w' w'_1 ∧
 ∀ (n_8 : Nat) (W : World),
 Loc w.heap.size
 [Blk.mk n_8 26
 [Value.string x_26, Value.string x_27,
 Value.string x_28, Value.string x_29,
 Value.int IntKind.i64 x_30,
 Value.int IntKind.i64 x_31, Value.string x_32,
 Value.slice p_3 n_7 c_3, Value.string x_33]
 (wrM 2),
 Blk.mk n_5 29
 [Value.string x_9, Value.string x_10,
 Value.string x_11, Value.string x_12,
 Value.int IntKind.i64 x_13,
 Value.int IntKind.i64 x_14, Value.string x_15,
 Value.slice p_1 n_4 c_1, Value.string x_16]
 0,
 Blk.mk n_3 29
 [Value.string x_1, Value.string x_2,
 Value.string x_3, Value.string x_4,
 Value.int IntKind.i64 x_5,
 Value.int IntKind.i64 x_6, Value.string x_7,
 Value.slice p n_2 c, Value.string x_8]
 0,
 Blk.mk n_1 26
 [Value.string fu, Value.string fs,
 Value.string tu, Value.string ts,
 Value.int IntKind.i64 n,
 Value.int IntKind.i64 d, Value.string sj,
 Value.slice hp hn hc, Value.string bd]
 0]
 w'_1 W →
 ∃ (S : World → Prop),
 S W ∧
 ∃ (x_35 : ByteArray),
 ∃ (x_36 : ByteArray),
 ∃ (x_37 : ByteArray),
 ∃ (x_38 : ByteArray),
 ∃ (x_39 : Int),
 ∃ (x_40 : Int),
 ∃ (x_41 : ByteArray),
 ∃ (p_4 : Option Addr),
 ∃ (n_9 : Nat),
 ∃ (c_4 : Nat),
 ∃ (x_42 : ByteArray),
 gimp (!!x_17 == x_34)
 (∀ (w' : World),
 S w' →
 AtL w' n_5 0
 [Value.string x_35,
 Value.string x_36,
 Value.string x_37,
 Value.string x_38,
 Value.int IntKind.i64 x_39,
 Value.int IntKind.i64 x_40,
 Value.string x_41,
 Value.slice p_4 n_9 c_4,
 Value.string x_42]) ∧
 ∃ (x_43 : ByteArray),
 ∃ (x_44 : ByteArray),
 ∃ (x_45 : ByteArray),
 ∃ (x_46 : ByteArray),
 ∃ (x_47 : Int),
 ∃ (x_48 : Int),
 ∃ (x_49 : ByteArray),
 ∃ (p_5 : Option Addr),
 ∃ (n_10 : Nat),
 ∃ (c_5 : Nat),
 ∃ (x_50 : ByteArray),
 gimp (!!x_17 == x_34)
 (∀ (w' : World),
 S w' →
 AtL w' n_8 0
 [Value.string x_43,
 Value.string x_44,
 Value.string x_45,
 Value.string x_46,
 Value.int IntKind.i64
 x_47,
 Value.int IntKind.i64
 x_48,
 Value.string x_49,
 Value.slice p_5 n_10
 c_5,
 Value.string x_50]) ∧
 bsp (!!x_17 == x_34)
 (CallsS Tryd.prog 11
 #[Value.agg
 #[Value.string x_35,
 Value.string x_36,
 Value.string x_37,
 Value.string x_38,
 Value.int IntKind.i64
 x_39,
 Value.int IntKind.i64
 x_40,
 Value.string x_41,
 Value.slice p_4 n_9
 c_4,
 Value.string x_42]]
 W
 fun (e : Ending)
 (w' : World) =>
 ∃ (x_51 : ByteArray),
 ∃ (x_52 : ByteArray),
 ∃ (x_53 : ByteArray),
 ∃ (x_54 : ByteArray),
 ∃ (x_55 : Int),
 ∃ (x_56 : Int),
 ∃ (x_57 :
 ByteArray),
 ∃ (p_6 :
 Option Addr),
 ∃ (n_11 : Nat),
 ∃ (c_6 : Nat),
 ∃ (x_58 :
 ByteArray),
 e =
 Ending.returned
 (Value.agg
 #[Value.string
 x_51,
 Value.string
 x_52,
 Value.string
 x_53,
 Value.string
 x_54,
 Value.int
 IntKind.i64
 x_55,
 Value.int
 IntKind.i64
 x_56,
 Value.string
 x_57,
 Value.slice
 p_6
 n_11
 c_6,
 Value.string
 x_58]) ∧
 S w' ∧
 CallsS
 Tryd.prog
 12
 #[Value.agg
 #[Value.string
 x_51,
 Value.string
 x_52,
 Value.string
 x_53,
 Value.string
 x_54,
 Value.int
 IntKind.i64
 x_55,
 Value.int
 IntKind.i64
 x_56,
 Value.string
 x_57,
 Value.slice
 p_6
 n_11
 c_6,
 Value.string
 x_58],
 Value.agg
 #[Value.string
 x_43,
 Value.string
 x_44,
 Value.string
 x_45,
 Value.string
 x_46,
 Value.int
 IntKind.i64
 x_47,
 Value.int
 IntKind.i64
 x_48,
 Value.string
 x_49,
 Value.slice
 p_5
 n_10
 c_5,
 Value.string
 x_50]]
 w'
 fun
 (e :
 Ending)
 (w' :
 World) =>
 ∃ (x_59 :
 Bool),
 e =
 Ending.returned
 (Value.bool
 x_59) ∧
 KeptL
 [n_8,
 n_5,
 n_3,
 n_1]
 W w' ∧
 bsp
 (false ||
 !x_59)
 (R
 (Ending.returned
 (Value.bool
 false))
 w')
 (CallsS
 Tryd.prog
 9
 #[Value.agg
 #[Value.string
 x_9,
 Value.string
 x_10,
 Value.string
 x_11,
 Value.string
 x_12,
 Value.int
 IntKind.i64
 x_13,
 Value.int
 IntKind.i64
 x_14,
 Value.string
 x_15,
 Value.slice
 p_1
 n_4
 c_1,
 Value.string
 x_16],
 Value.string
 (s.extract
 0
 (if
 60 <
 (↑s.size :
 Int) then
 60
 else
 (↑s.size :
 Int)).toNat),
 Value.int
 IntKind.i64
 x,
 Value.int
 IntKind.i64
 now]
 w'
 fun
 (e :
 Ending)
 (w'_2 :
 World) =>
 ∃ (x
 :
 ByteArray),
 ∃
 (x_60
 :
 ByteArray),
 ∃
 (x_61
 :
 ByteArray),
 ∃
 (x_62
 :
 ByteArray),
 ∃
 (x_63
 :
 Int),
 ∃
 (x_64
 :
 Int),
 ∃
 (x_65
 :
 ByteArray),
 ∃
 (p_7
 :
 Option
 Addr),
 ∃
 (n_12
 :
 Nat),
 ∃
 (c_7
 :
 Nat),
 ∃
 (x_66
 :
 ByteArray),
 ∃
 (x_67
 :
 Bool),
 e =
 Ending.returned
 (Value.tuple
 #[Value.agg
 #[Value.string
 x,
 Value.string
 x_60,
 Value.string
 x_61,
 Value.string
 x_62,
 Value.int
 IntKind.i64
 x_63,
 Value.int
 IntKind.i64
 x_64,
 Value.string
 x_65,
 Value.slice
 p_7
 n_12
 c_7,
 Value.string
 x_66],
 Value.bool
 x_67]) ∧
 KeptL
 [n_8,
 n_5,
 n_3,
 n_1]
 w'
 w'_2 ∧
 ∀
 (n_13 :
 Nat)
 (W :
 World),
 Loc
 w.heap.size
 [Blk.mk
 n_13
 29
 [Value.string
 x,
 Value.string
 x_60,
 Value.string
 x_61,
 Value.string
 x_62,
 Value.int
 IntKind.i64
 x_63,
 Value.int
 IntKind.i64
 x_64,
 Value.string
 x_65,
 Value.slice
 p_7
 n_12
 c_7,
 Value.string
 x_66]
 (wrM
 2),
 Blk.mk
 n_8
 26
 [Value.string
 x_26,
 Value.string
 x_27,
 Value.string
 x_28,
 Value.string
 x_29,
 Value.int
 IntKind.i64
 x_30,
 Value.int
 IntKind.i64
 x_31,
 Value.string
 x_32,
 Value.slice
 p_3
 n_7
 c_3,
 Value.string
 x_33]
 0,
 Blk.mk
 n_5
 29
 [Value.string
 x_9,
 Value.string
 x_10,
 Value.string
 x_11,
 Value.string
 x_12,
 Value.int
 IntKind.i64
 x_13,
 Value.int
 IntKind.i64
 x_14,
 Value.string
 x_15,
 Value.slice
 p_1
 n_4
 c_1,
 Value.string
 x_16]
 0,
 Blk.mk
 n_3
 29
 [Value.string
 x_1,
 Value.string
 x_2,
 Value.string
 x_3,
 Value.string
 x_4,
 Value.int
 IntKind.i64
 x_5,
 Value.int
 IntKind.i64
 x_6,
 Value.string
 x_7,
 Value.slice
 p
 n_2
 c,
 Value.string
 x_8]
 0,
 Blk.mk
 n_1
 26
 [Value.string
 fu,
 Value.string
 fs,
 Value.string
 tu,
 Value.string
 ts,
 Value.int
 IntKind.i64
 n,
 Value.int
 IntKind.i64
 d,
 Value.string
 sj,
 Value.slice
 hp
 hn
 hc,
 Value.string
 bd]
 0]
 w'_2
 W →
 CallsS
 Tryd.prog
 13
 #[]
 W
 fun
 (e :
 Ending)
 (w' :
 World) =>
 ∃
 (x
 :
 Bool),
 e =
 Ending.returned
 (Value.bool
 x) ∧
 KeptL
 [n_13,
 n_8,
 n_5,
 n_3,
 n_1]
 W
 w' ∧
 bsp
 (x &&
 !x_67)
 (bsp
 (!!x_17)
 (CallsS
 Tryd.prog
 14
 #[Value.agg
 #[Value.string
 x_9,
 Value.string
 x_10,
 Value.string
 x_11,
 Value.string
 x_12,
 Value.int
 IntKind.i64
 x_13,
 Value.int
 IntKind.i64
 x_14,
 Value.string
 x_15,
 Value.slice
 p_1
 n_4
 c_1,
 Value.string
 x_16]]
 w'
 fun
 (e :
 Ending)
 (w'_3 :
 World) =>
 ∃
 (x
 :
 Int),
 e =
 Ending.returned
 (Value.int
 IntKind.i64
 x) ∧
 KeptL
 [n_13,
 n_8,
 n_5,
 n_3,
 n_1]
 w'
 w'_3 ∧
 R
 (Ending.returned
 (Value.bool
 (true &&
 (false ||
 x ==
 0))))
 w'_3)
 (KeptL
 [n_13,
 n_8,
 n_5,
 n_3,
 n_1]
 w'
 w' ∧
 R
 (Ending.returned
 (Value.bool
 (true &&
 true)))
 w'))
 (KeptL
 [n_13,
 n_8,
 n_5,
 n_3,
 n_1]
 w'
 w' ∧
 R
 (Ending.returned
 (Value.bool
 false))
 w')))
 (S W ∧
 KeptL
 [n_8, n_5, n_3, n_1] W
 W ∧
 R
 (Ending.returned
 (Value.bool false))
 W)
theorem vc_lbounce (fu : ByteArray) (fs : ByteArray) (tu : ByteArray) (ts : ByteArray) (n : Int) (d : Int) (sj : ByteArray) (hp : Option Addr) (hn : Nat) (hc : Nat) (bd : ByteArray) (s : ByteArray) (x : Int) (now : Int) (w : World) (R : Ending → World → Prop) (h : VC_lbounce fu fs tu ts n d sj hp hn hc bd s x now w R) : Calls Tryd.prog 3 ([Value.agg
    #[Value.string fu, Value.string fs, Value.string tu, Value.string ts, Value.int IntKind.i64 n,
      Value.int IntKind.i64 d, Value.string sj, Value.slice hp hn hc, Value.string bd],
  Value.string s, Value.int IntKind.i64 x, Value.int IntKind.i64 now] : List Value).toArray w R := by
  have e : execR2 { P := Tryd.prog, loops := [], pur := purM, tails := [(5, 5)], joins := [], boxes := [] } Tryd.f3.results.toList R (Tryd.f3.body.getD .skip) (initF [Value.agg
    #[Value.string fu, Value.string fs, Value.string tu, Value.string ts, Value.int IntKind.i64 n,
      Value.int IntKind.i64 d, Value.string sj, Value.slice hp hn hc, Value.string bd],
  Value.string s, Value.int IntKind.i64 x,
  Value.int IntKind.i64
    now] (Tryd.f3.ntmps - ([Value.agg
    #[Value.string fu, Value.string fs, Value.string tu, Value.string ts, Value.int IntKind.i64 n,
      Value.int IntKind.i64 d, Value.string sj, Value.slice hp hn hc, Value.string bd],
  Value.string s, Value.int IntKind.i64 x,
  Value.int IntKind.i64
    now] : List Value).length)) w = VC_lbounce fu fs tu ts n d sj hp hn hc bd s x now w R := by kernel_rfl
  have hb : Tryd.f3.body = some (Tryd.f3.body.getD .skip) := by kernel_rfl
  exact calls_of_exec2' (P := Tryd.prog) (fn := Tryd.f3) (c := Tryd.f3.body.getD .skip) (args := [Value.agg
    #[Value.string fu, Value.string fs, Value.string tu, Value.string ts, Value.int IntKind.i64 n,
      Value.int IntKind.i64 d, Value.string sj, Value.slice hp hn hc, Value.string bd],
  Value.string s, Value.int IntKind.i64 x, Value.int IntKind.i64 now]) (w := w) (R := R) purM_ok Tryd.func3 hb e h

def VC_lloops (fu : ByteArray) (fs : ByteArray) (tu : ByteArray) (ts : ByteArray) (n : Int) (d : Int) (sj : ByteArray) (hp : Option Addr) (hn : Nat) (hc : Nat) (bd : ByteArray) (p : Option Addr) (k : Nat) (c : Nat) (w : World) (R : Ending → World → Prop) : Prop :=
 ∀ (n_1 : Nat) (W : World),
 Loc w.heap.size
 [Blk.mk n_1 26
 [Value.string fu, Value.string fs, Value.string tu, Value.string ts, Value.int IntKind.i64 n,
 Value.int IntKind.i64 d, Value.string sj, Value.slice hp hn hc, Value.string bd]
 2]
 w W →
 CallsS Tryd.prog 8
 #[Value.agg
 #[Value.string fu, Value.string fs, Value.string tu, Value.string ts, Value.int IntKind.i64 n,
 Value.int IntKind.i64 d, Value.string sj, Value.slice hp hn hc, Value.string bd]]
 W fun (e : Ending) (w' : World) =>
 ∃ (x : ByteArray),
 ∃ (x_1 : ByteArray),
 ∃ (x_2 : ByteArray),
 ∃ (x_3 : ByteArray),
 ∃ (x_4 : Int),
 ∃ (x_5 : Int),
 ∃ (x_6 : ByteArray),
 ∃ (p_1 : Option Addr),
 ∃ (n_2 : Nat),
 ∃ (c : Nat),
 ∃ (x_7 : ByteArray),
 e =
 Ending.returned
 (Value.agg
 #[Value.string x, Value.string x_1, Value.string x_2, Value.string x_3, Value.int IntKind.i64 x_4,
 Value.int IntKind.i64 x_5, Value.string x_6, Value.slice p_1 n_2 c, Value.string x_7]) ∧
 KeptL [n_1] W w' ∧
 ∀ (n_3 : Nat) (W : World),
 Loc w.heap.size
 [Blk.mk n_3 29
 [Value.string x, Value.string x_1, Value.string x_2, Value.string x_3, Value.int IntKind.i64 x_4,
 Value.int IntKind.i64 x_5, Value.string x_6, Value.slice none 0 0, Value.string x_7]
 (wrM (wrM 2)),
 Blk.mk n_1 26
 [Value.string fu, Value.string fs, Value.string tu, Value.string ts, Value.int IntKind.i64 n,
 Value.int IntKind.i64 d, Value.string sj, Value.slice hp hn hc, Value.string bd]
 0]
 w' W →
 CallsS Tryd.prog 13 #[] W fun (e : Ending) (w' : World) =>
 ∃ (x_8 : Bool),
 e = Ending.returned (Value.bool x_8) ∧
 KeptL [n_3, n_1] W w' ∧
 bsp (!!x_8)
 (CallsS Tryd.prog 14
 #[Value.agg
 #[Value.string x, Value.string x_1, Value.string x_2, Value.string x_3,
 Value.int IntKind.i64 x_4, Value.int IntKind.i64 x_5, Value.string x_6, Value.slice none 0 0,
 Value.string x_7]]
 w' fun (e : Ending) (w'_1 : World) =>
 ∃ (x : Int),
 e = Ending.returned (Value.int IntKind.i64 x) ∧
 KeptL [n_3, n_1] w' w'_1 ∧
 bsp (false || x != 0)
 (CallsS Tryd.prog 13 #[] w'_1 fun (e : Ending) (w' : World) =>
 ∃ (x : Bool),
 e = Ending.returned (Value.bool x) ∧
 KeptL [n_3, n_1] w'_1 w' ∧ R (Ending.returned (Value.bool x)) w')
 (∀ (n_4 : Nat) (w1 : World),
 NewB w'_1 (Obj.map #[] 0) n_4 w1 →
 KeptL [n_3, n_1] w'_1 w1 ∧
 ∃ (I : List Value → World → Prop),
 ∃ (m : List Value → World → Nat),
 I [Value.int IntKind.i64 0] w1 ∧
 ∀ (x : Int) (w' : World),
 I [Value.int IntKind.i64 x] w' →
 Loc w.heap.size
 [Blk.mk n_1 26
 [Value.string fu, Value.string fs, Value.string tu, Value.string ts,
 Value.int IntKind.i64 n, Value.int IntKind.i64 d, Value.string sj,
 Value.slice hp hn hc, Value.string bd]
 0]
 w' w' →
 bsp (decide (x < (↑k : Int)) && decide (x < 60))
 (∀ (W : World),
 Loc w.heap.size
 [Blk.mk n_1 26
 [Value.string fu, Value.string fs, Value.string tu, Value.string ts,
 Value.int IntKind.i64 n, Value.int IntKind.i64 d, Value.string sj,
 Value.slice hp hn hc, Value.string bd]
 0]
 w' W →
 ∃ (S : World → Prop),
 S W ∧
 ∃ (x_9 : ByteArray),
 ∃ (x_10 : ByteArray),
 ∃ (x_11 : ByteArray),
 ∃ (x_12 : ByteArray),
 ∃ (x_13 : Int),
 ∃ (x_14 : Int),
 ∃ (x_15 : ByteArray),
 ∃ (p_2 : Option Addr),
 ∃ (n : Nat),
 ∃ (c : Nat),
 ∃ (x_16 : ByteArray),
 (∀ (w' : World),
 S w' →
 AtL w' n_3 0
 [Value.string x_9, Value.string x_10, Value.string x_11,
 Value.string x_12, Value.int IntKind.i64 x_13,
 Value.int IntKind.i64 x_14, Value.string x_15,
 Value.slice p_2 n c, Value.string x_16]) ∧
 nn true p fun (b o : Nat) =>
 (0 ≤ x ∧ x < (↑k : Int)) ∧
 ∃ (x_17 : ByteArray),
 (∀ (w' : World),
 S w' →
 w'.cell? (Addr.mk b (o + x.toNat) none) =
 some (Value.string x_17)) ∧
 (CallsS Tryd.prog 17
 #[Value.agg
 #[Value.string x_9, Value.string x_10, Value.string x_11,
 Value.string x_12, Value.int IntKind.i64 x_13,
 Value.int IntKind.i64 x_14, Value.string x_15,
 Value.slice p_2 n c, Value.string x_16],
 Value.string x_17]
 W fun (e : Ending) (w'_2 : World) =>
 ∃ (x_18 : ByteArray),
 ∃ (x_19 : ByteArray),
 ∃ (x_20 : ByteArray),
 ∃ (x_21 : ByteArray),
 ∃ (x_22 : Int),
 ∃ (x_23 : Int),
 ∃ (x_24 : ByteArray),
 ∃ (p_3 : Option Addr),
 ∃ (n : Nat),
 ∃ (c : Nat),
 ∃ (x_25 : ByteArray),
 ∃ (x_26 : Int),
 e =
 Ending.returned
 (Value.tuple
 #[Value.agg
 #[Value.string x_18, Value.string x_19,
 Value.string x_20, Value.string x_21,
 Value.int IntKind.i64 x_22,
 Value.int IntKind.i64 x_23,
 Value.string x_24, Value.slice p_3 n c,
 Value.string x_25],
 Value.int IntKind.i64 x_26]) ∧
 ∀ (n_5 : Nat) (w1 : World),
 NewB w'_2
 (Obj.cells
 #[Value.string (ByteArray.mk #[]),
 Value.string (ByteArray.mk #[]),
 Value.string (ByteArray.mk #[]),
 Value.string (ByteArray.mk #[]),
 Value.int IntKind.i64 0,
 Value.int IntKind.i64 0,
 Value.string (ByteArray.mk #[]),
 Value.slice none 0 0,
 Value.string (ByteArray.mk #[])]
 29)
 n_5 w1 →
 S w1 ∧
 WrL w1 n_5 0 9 ∧
 ∀ (w1_1 : World),
 PutB w1 n_5 0
 [Value.string x_18, Value.string x_19,
 Value.string x_20, Value.string x_21,
 Value.int IntKind.i64 x_22,
 Value.int IntKind.i64 x_23,
 Value.string x_24, Value.slice p_3 n c,
 Value.string x_25]
 w1_1 →
 KeptL [n_1] W w1_1 ∧
 bsp (x_26 != 0)
 (I
 [Value.int IntKind.i64
 (IntKind.i64.wrap (x + 1))]
 w1_1 ∧
 m
 [Value.int IntKind.i64
 (IntKind.i64.wrap (x + 1))]
 w1_1 <
 m [Value.int IntKind.i64 x] w')
 (nn true p fun (b o : Nat) =>
 (0 ≤ x ∧ x < (↑k : Int)) ∧
 ∃ (x_27 : ByteArray),
 w1_1.cell?
 (Addr.mk b (o + x.toNat) none) =
 some (Value.string x_27) ∧
 ∃ (x_28 : Bool),
 LookP Tryd.prog 48
 (Value.map (some n_4))
 (Value.string x_27) false
 (Value.bool x_28) w1_1 ∧
 ∃ (p_4 : Option Addr),
 ∃ (n : Nat),
 ∃ (c : Nat),
 gimp (!x_28)
 (w1_1.cell?
 (Addr.mk n_5 (0 + 7)
 none) =
 some
 (Value.slice p_4 n c)) ∧
 ∃ (p_5 : Option Addr),
 ∃ (n_6 : Nat),
 ∃ (c : Nat),
 gimp (!x_28)
 (w1_1.cell?
 (Addr.mk n_3 (0 + 7)
 none) =
 some
 (Value.slice p_5 n_6
 c)) ∧
 ∃ (p_6 : Option Addr),
 ∃ (n_7 : Nat),
 ∃ (c : Nat),
 gimp
 (!(x_28 ||
 (↑n : Int) !=
 IntKind.i64.wrap
 ((↑n_6 : Int) +
 1)))
 (w1_1.cell?
 (Addr.mk n_5
 (0 + 7) none) =
 some
 (Value.slice p_6
 n_7 c)) ∧
 ∃ (x_29 : ByteArray),
 ∃ (x_30 :
 ByteArray),
 ∃ (x_31 :
 ByteArray),
 ∃ (x_32 :
 ByteArray),
 ∃ (x_33 : Int),
 ∃ (x_34 : Int),
 ∃ (x_35 :
 ByteArray),
 ∃ (p_7 :
 Option Addr),
 ∃ (n_8 :
 Nat),
 ∃ (c : Nat),
 ∃ (x_36 :
 ByteArray),
 gimp
 (!(x_28 ||
 (↑n :
 Int) !=
 IntKind.i64.wrap
 ((↑n_6 :
 Int) +
 1) ||
 decide
 ((↑n_7 :
 Int) >
 16)))
 (AtL
 w1_1
 n_5 0
 [Value.string
 x_29,
 Value.string
 x_30,
 Value.string
 x_31,
 Value.string
 x_32,
 Value.int
 IntKind.i64
 x_33,
 Value.int
 IntKind.i64
 x_34,
 Value.string
 x_35,
 Value.slice
 p_7
 n_8
 c,
 Value.string
 x_36]) ∧
 bsp
 (!(x_28 ||
 (↑n :
 Int) !=
 IntKind.i64.wrap
 ((↑n_6 :
 Int) +
 1) ||
 decide
 ((↑n_7 :
 Int) >
 16)))
 (CallsS
 Tryd.prog
 14
 #[Value.agg
 #[Value.string
 x_29,
 Value.string
 x_30,
 Value.string
 x_31,
 Value.string
 x_32,
 Value.int
 IntKind.i64
 x_33,
 Value.int
 IntKind.i64
 x_34,
 Value.string
 x_35,
 Value.slice
 p_7
 n_8
 c,
 Value.string
 x_36]]
 w1_1
 fun
 (e :
 Ending)
 (w'_3 :
 World) =>
 ∃ (x_37
 :
 Int),
 e =
 Ending.returned
 (Value.int
 IntKind.i64
 x_37) ∧
 KeptL
 [n_1]
 w1_1
 w'_3 ∧
 bsp
 (false ||
 x_37 !=
 0)
 (R
 (Ending.returned
 (Value.bool
 false))
 w'_3)
 (nn
 true
 p
 fun
 (b
 o :
 Nat) =>
 (0 ≤
 x ∧
 x <
 (↑k :
 Int)) ∧
 ∃
 (x_38
 :
 ByteArray),
 w'_3.cell?
 (Addr.mk
 b
 (o +
 x.toNat)
 none) =
 some
 (Value.string
 x_38) ∧
 ∃
 (w1
 :
 World),
 UpdP
 Tryd.prog
 48
 (Value.map
 (some
 n_4))
 (Value.string
 x_38)
 (Value.bool
 true)
 w'_3
 w1 ∧
 KeptL
 [n_1]
 w'_3
 w1 ∧
 ∃
 (x_39
 :
 ByteArray),
 ∃
 (x_40
 :
 ByteArray),
 ∃
 (x_41
 :
 ByteArray),
 ∃
 (x_42
 :
 ByteArray),
 ∃
 (x_43
 :
 Int),
 ∃
 (x_44
 :
 Int),
 ∃
 (x_45
 :
 ByteArray),
 ∃
 (p
 :
 Option
 Addr),
 ∃
 (n
 :
 Nat),
 ∃
 (c
 :
 Nat),
 ∃
 (x_46
 :
 ByteArray),
 AtL
 w1
 n_5
 0
 [Value.string
 x_39,
 Value.string
 x_40,
 Value.string
 x_41,
 Value.string
 x_42,
 Value.int
 IntKind.i64
 x_43,
 Value.int
 IntKind.i64
 x_44,
 Value.string
 x_45,
 Value.slice
 p
 n
 c,
 Value.string
 x_46] ∧
 WrL
 w1
 n_3
 0
 9 ∧
 ∀
 (w1_2 :
 World),
 PutB
 w1
 n_3
 0
 [Value.string
 x_39,
 Value.string
 x_40,
 Value.string
 x_41,
 Value.string
 x_42,
 Value.int
 IntKind.i64
 x_43,
 Value.int
 IntKind.i64
 x_44,
 Value.string
 x_45,
 Value.slice
 p
 n
 c,
 Value.string
 x_46]
 w1_2 →
 KeptL
 [n_1]
 w1
 w1_2 ∧
 I
 [Value.int
 IntKind.i64
 (IntKind.i64.wrap
 (x +
 1))]
 w1_2 ∧
 m
 [Value.int
 IntKind.i64
 (IntKind.i64.wrap
 (x +
 1))]
 w1_2 <
 m
 [Value.int
 IntKind.i64
 x]
 w'))
 (KeptL
 [n_1]
 w1_1
 w1_1 ∧
 R
 (Ending.returned
 (Value.bool
 false))
 w1_1))) ∧
 ∀ (n_5 : Nat) (w1 : World),
 NewB W
 (Obj.cells
 #[Value.string (ByteArray.mk #[]),
 Value.string (ByteArray.mk #[]),
 Value.string (ByteArray.mk #[]),
 Value.string (ByteArray.mk #[]),
 Value.int IntKind.i64 0, Value.int IntKind.i64 0,
 Value.string (ByteArray.mk #[]), Value.slice none 0 0,
 Value.string (ByteArray.mk #[])]
 29)
 n_5 w1 →
 S w1 ∧
 CallsS Tryd.prog 17
 #[Value.agg
 #[Value.string x_9, Value.string x_10,
 Value.string x_11, Value.string x_12,
 Value.int IntKind.i64 x_13,
 Value.int IntKind.i64 x_14, Value.string x_15,
 Value.slice p_2 n c, Value.string x_16],
 Value.string x_17]
 w1 fun (e : Ending) (w'_2 : World) =>
 ∃ (x_18 : ByteArray),
 ∃ (x_19 : ByteArray),
 ∃ (x_20 : ByteArray),
 ∃ (x_21 : ByteArray),
 ∃ (x_22 : Int),
 ∃ (x_23 : Int),
 ∃ (x_24 : ByteArray),
 ∃ (p_3 : Option Addr),
 ∃ (n : Nat),
 ∃ (c : Nat),
 ∃ (x_25 : ByteArray),
 ∃ (x_26 : Int),
 e =
 Ending.returned
 (Value.tuple
 #[Value.agg
 #[Value.string x_18, Value.string x_19,
 Value.string x_20, Value.string x_21,
 Value.int IntKind.i64 x_22,
 Value.int IntKind.i64 x_23,
 Value.string x_24,
 Value.slice p_3 n c,
 Value.string x_25],
 Value.int IntKind.i64 x_26]) ∧
 WrL w'_2 n_5 0 9 ∧
 ∀ (w1 : World),
 PutB w'_2 n_5 0
 [Value.string x_18, Value.string x_19,
 Value.string x_20, Value.string x_21,
 Value.int IntKind.i64 x_22,
 Value.int IntKind.i64 x_23,
 Value.string x_24, Value.slice p_3 n c,
 Value.string x_25]
 w1 →
 KeptL [n_1] W w1 ∧
 bsp (x_26 != 0)
 (I
 [Value.int IntKind.i64
 (IntKind.i64.wrap (x + 1))]
 w1 ∧
 m
 [Value.int IntKind.i64
 (IntKind.i64.wrap (x + 1))]
 w1 <
 m [Value.int IntKind.i64 x] w')
 (nn true p fun (b o : Nat) =>
 (0 ≤ x ∧ x < (↑k : Int)) ∧
 ∃ (x_27 : ByteArray),
 w1.cell?
 (Addr.mk b (o + x.toNat) none) =
 some (Value.string x_27) ∧
 ∃ (x_28 : Bool),
 LookP Tryd.prog 48
 (Value.map (some n_4))
 (Value.string x_27) false
 (Value.bool x_28) w1 ∧
 ∃ (p_4 : Option Addr),
 ∃ (n : Nat),
 ∃ (c : Nat),
 gimp (!x_28)
 (w1.cell?
 (Addr.mk n_5 (0 + 7)
 none) =
 some
 (Value.slice p_4 n c)) ∧
 ∃ (p_5 : Option Addr),
 ∃ (n_6 : Nat),
 ∃ (c : Nat),
 gimp (!x_28)
 (w1.cell?
 (Addr.mk n_3 (0 + 7)
 none) =
 some
 (Value.slice p_5 n_6
 c)) ∧
 ∃ (p_6 : Option Addr),
 ∃ (n_7 : Nat),
 ∃ (c : Nat),
 gimp
 (!(x_28 ||
 (↑n : Int) !=
 IntKind.i64.wrap
 ((↑n_6 : Int) +
 1)))
 (w1.cell?
 (Addr.mk n_5
 (0 + 7) none) =
 some
 (Value.slice p_6
 n_7 c)) ∧
 ∃ (x_29 : ByteArray),
 ∃ (x_30 :
 ByteArray),
 ∃ (x_31 :
 ByteArray),
 ∃ (x_32 :
 ByteArray),
 ∃ (x_33 : Int),
 ∃ (x_34 : Int),
 ∃ (x_35 :
 ByteArray),
 ∃ (p_7 :
 Option Addr),
 ∃ (n_8 :
 Nat),
 ∃ (c : Nat),
 ∃ (x_36 :
 ByteArray),
 gimp
 (!(x_28 ||
 (↑n :
 Int) !=
 IntKind.i64.wrap
 ((↑n_6 :
 Int) +
 1) ||
 decide
 ((↑n_7 :
 Int) >
 16)))
 (AtL w1
 n_5 0
 [Value.string
 x_29,
 Value.string
 x_30,
 Value.string
 x_31,
 Value.string
 x_32,
 Value.int
 IntKind.i64
 x_33,
 Value.int
 IntKind.i64
 x_34,
 Value.string
 x_35,
 Value.slice
 p_7
 n_8
 c,
 Value.string
 x_36]) ∧
 bsp
 (!(x_28 ||
 (↑n :
 Int) !=
 IntKind.i64.wrap
 ((↑n_6 :
 Int) +
 1) ||
 decide
 ((↑n_7 :
 Int) >
 16)))
 (CallsS
 Tryd.prog
 14
 #[Value.agg
 #[Value.string
 x_29,
 Value.string
 x_30,
 Value.string
 x_31,
 Value.string
 x_32,
 Value.int
 IntKind.i64
 x_33,
 Value.int
 IntKind.i64
 x_34,
 Value.string
 x_35,
 Value.slice
 p_7
 n_8
 c,
 Value.string
 x_36]]
 w1
 fun
 (e :
 Ending)
 (w'_3 :
 World) =>
 ∃ (x_37
 :
 Int),
 e =
 Ending.returned
 (Value.int
 IntKind.i64
 x_37) ∧
 KeptL
 [n_1]
 w1
 w'_3 ∧
 bsp
 (false ||
 x_37 !=
 0)
 (R
 (Ending.returned
 (Value.bool
 false))
 w'_3)
 (nn
 true
 p
 fun
 (b
 o :
 Nat) =>
 (0 ≤
 x ∧
 x <
 (↑k :
 Int)) ∧
 ∃
 (x_38
 :
 ByteArray),
 w'_3.cell?
 (Addr.mk
 b
 (o +
 x.toNat)
 none) =
 some
 (Value.string
 x_38) ∧
 ∃
 (w1
 :
 World),
 UpdP
 Tryd.prog
 48
 (Value.map
 (some
 n_4))
 (Value.string
 x_38)
 (Value.bool
 true)
 w'_3
 w1 ∧
 KeptL
 [n_1]
 w'_3
 w1 ∧
 ∃
 (x_39
 :
 ByteArray),
 ∃
 (x_40
 :
 ByteArray),
 ∃
 (x_41
 :
 ByteArray),
 ∃
 (x_42
 :
 ByteArray),
 ∃
 (x_43
 :
 Int),
 ∃
 (x_44
 :
 Int),
 ∃
 (x_45
 :
 ByteArray),
 ∃
 (p
 :
 Option
 Addr),
 ∃
 (n
 :
 Nat),
 ∃
 (c
 :
 Nat),
 ∃
 (x_46
 :
 ByteArray),
 AtL
 w1
 n_5
 0
 [Value.string
 x_39,
 Value.string
 x_40,
 Value.string
 x_41,
 Value.string
 x_42,
 Value.int
 IntKind.i64
 x_43,
 Value.int
 IntKind.i64
 x_44,
 Value.string
 x_45,
 Value.slice
 p
 n
 c,
 Value.string
 x_46] ∧
 WrL
 w1
 n_3
 0
 9 ∧
 ∀
 (w1_1 :
 World),
 PutB
 w1
 n_3
 0
 [Value.string
 x_39,
 Value.string
 x_40,
 Value.string
 x_41,
 Value.string
 x_42,
 Value.int
 IntKind.i64
 x_43,
 Value.int
 IntKind.i64
 x_44,
 Value.string
 x_45,
 Value.slice
 p
 n
 c,
 Value.string
 x_46]
 w1_1 →
 KeptL
 [n_1]
 w1
 w1_1 ∧
 I
 [Value.int
 IntKind.i64
 (IntKind.i64.wrap
 (x +
 1))]
 w1_1 ∧
 m
 [Value.int
 IntKind.i64
 (IntKind.i64.wrap
 (x +
 1))]
 w1_1 <
 m
 [Value.int
 IntKind.i64
 x]
 w'))
 (KeptL
 [n_1]
 w1
 w1 ∧
 R
 (Ending.returned
 (Value.bool
 false))
 w1)))
 (R (Ending.returned (Value.bool true)) w')))
 (KeptL [n_3, n_1] w' w' ∧
 CallsS Tryd.prog 13 #[] w' fun (e : Ending) (w'_1 : World) =>
 ∃ (x : Bool),
 e = Ending.returned (Value.bool x) ∧
 KeptL [n_3, n_1] w' w'_1 ∧ R (Ending.returned (Value.bool x)) w'_1)
theorem vc_lloops (fu : ByteArray) (fs : ByteArray) (tu : ByteArray) (ts : ByteArray) (n : Int) (d : Int) (sj : ByteArray) (hp : Option Addr) (hn : Nat) (hc : Nat) (bd : ByteArray) (p : Option Addr) (k : Nat) (c : Nat) (w : World) (R : Ending → World → Prop) (h : VC_lloops fu fs tu ts n d sj hp hn hc bd p k c w R) : Calls Tryd.prog 6 ([Value.agg
    #[Value.string fu, Value.string fs, Value.string tu, Value.string ts, Value.int IntKind.i64 n,
      Value.int IntKind.i64 d, Value.string sj, Value.slice hp hn hc, Value.string bd],
  Value.slice p k c] : List Value).toArray w R := by
  have e : execR2 { P := Tryd.prog, loops := [(7, [(7, Ck.int IntKind.i64)])], pur := purM, tails := [(9, 5)], joins := [], boxes := [] } Tryd.f6.results.toList R (Tryd.f6.body.getD .skip) (initF [Value.agg
    #[Value.string fu, Value.string fs, Value.string tu, Value.string ts, Value.int IntKind.i64 n,
      Value.int IntKind.i64 d, Value.string sj, Value.slice hp hn hc, Value.string bd],
  Value.slice p k
    c] (Tryd.f6.ntmps - ([Value.agg
    #[Value.string fu, Value.string fs, Value.string tu, Value.string ts, Value.int IntKind.i64 n,
      Value.int IntKind.i64 d, Value.string sj, Value.slice hp hn hc, Value.string bd],
  Value.slice p k c] : List Value).length)) w = VC_lloops fu fs tu ts n d sj hp hn hc bd p k c w R := by kernel_rfl
  have hb : Tryd.f6.body = some (Tryd.f6.body.getD .skip) := by kernel_rfl
  exact calls_of_exec2' (P := Tryd.prog) (fn := Tryd.f6) (c := Tryd.f6.body.getD .skip) (args := [Value.agg
    #[Value.string fu, Value.string fs, Value.string tu, Value.string ts, Value.int IntKind.i64 n,
      Value.int IntKind.i64 d, Value.string sj, Value.slice hp hn hc, Value.string bd],
  Value.slice p k c]) (w := w) (R := R) purM_ok Tryd.func6 hb e h

end Go.Proofs.YtmlmdljnfokebaaDoor

/- Chapter 49: the reference's Same and Bounce; MailBounces on worlds. Strings have at most 2^47 bytes. -/
namespace Go.Proofs.YtmlmdljnfokebaaDoor
open Go.RowKit Go.Maps

theorem axKey (a b : ByteArray) (ha : a.size ≤ 4611686018427387904) (hb : b.size ≤ 4611686018427387904) (D : Nat) : Tryd.prog.keyLits (D + 2) 23 [.string a, .string b] = some [.string a.data.toList, .string b.data.toList] := by
  unfold Program.keyLits
  rw [Tryd.underlying23]
  simp only
  have c0 : Tryd.prog.cellsOf 23 = 2 := by kernel_rfl
  rw [if_pos ⟨by rw [c0]; rfl, by decide +kernel⟩]
  have h1 : ∀ s : ByteArray, s.size ≤ 4611686018427387904 → Tryd.prog.keyLits (D + 1) 9 [.string s] = some [.string s.data.toList] := fun s hs => by
    unfold Program.keyLits
    rw [Tryd.underlying9]
    simp only
    rw [if_pos (by unfold maxLen; omega)]
  have c1 : Tryd.prog.cellsOf 9 = 1 := by kernel_rfl
  simp only [List.mapM_cons, List.mapM_nil, c1]
  have e1 : ([Value.string a, .string b].drop 0).take 1 = [.string a] := rfl
  have e2 : ([Value.string a, .string b].drop 1).take 1 = [.string b] := rfl
  rw [e1, e2, h1 a ha, h1 b hb]
  rfl
theorem axKeyOf (a b : ByteArray) (ha : a.size ≤ 4611686018427387904) (hb : b.size ≤ 4611686018427387904) : keyOf Tryd.prog 23 (.agg #[.string a, .string b]) = some (.string (keyBytes [.string a.data.toList, .string b.data.toList])) := by
  unfold keyOf
  rw [Tryd.underlying23]
  simp only
  have h1 : Tryd.prog.keyType 23 = true := by kernel_rfl
  have hf' : (Value.agg #[.string a, .string b]).formed Tryd.prog 23 = true := by
    unfold Value.formed
    rw [Tryd.underlying23]
    have c0 : Tryd.prog.cellsOf 23 = 2 := by kernel_rfl
    simp only
    rw [c0]; rfl
  rw [h1, hf']
  have h2 := axKey a b ha hb (Tryd.prog.types.size - 1)
  have hsz : 2 ≤ Tryd.prog.types.size := by decide +kernel
  have e2 : Tryd.prog.types.size - 1 + 2 = Tryd.prog.types.size + 1 := by omega
  rw [e2] at h2
  have : (Value.agg #[.string a, .string b]).cells.toList = [.string a, .string b] := by simp [Value.cells]
  rw [this, h2]
  rfl
set_option maxRecDepth 100000 in
theorem axEq (a b c d : ByteArray) (ha : a.size ≤ 4611686018427387904) (hb : b.size ≤ 4611686018427387904) (hc : c.size ≤ 4611686018427387904) (hd : d.size ≤ 4611686018427387904) :
    EqP Tryd.prog 23 (.agg #[.string a, .string b]) (.agg #[.string c, .string d]) (decide (a = c ∧ b = d)) := by
  refine ⟨fun w => ?_, by kernel_rfl, _, _, rfl, rfl⟩
  obtain ⟨r, hr, hi⟩ := run_equal_deep w (m := 3) (by omega) (by kernel_rfl) (by rw [Tryd.underlying23]) (axKeyOf a b ha hb) (axKeyOf c d hc hd)
  rw [hr]
  congr 1
  rw [Bool.eq_iff_iff, hi, decide_eq_true_eq]
  constructor
  · intro h
    have h : keyBytes [.string a.data.toList, .string b.data.toList] = keyBytes [.string c.data.toList, .string d.data.toList] := by simpa using h
    have := keyLits_inj (axKey a b ha hb 0) (axKey c d hc hd 0) h
    simp only [List.cons.injEq, Lit.string.injEq, and_true] at this
    exact ⟨ByteArray.ext (Array.toList_inj.1 this.1), ByteArray.ext (Array.toList_inj.1 this.2)⟩
  · rintro ⟨rfl, rfl⟩; rfl


/-- The strings of a message that are compared as parts of addresses are not too great. -/
def SzM (m : Ml) : Prop := m.fu.size ≤ 4611686018427387904 ∧ m.fs.size ≤ 4611686018427387904 ∧ m.tu.size ≤ 4611686018427387904 ∧ m.ts.size ≤ 4611686018427387904
theorem xsame_any (a b : Ml) (p : Option Addr) (c : Nat) (q : Option Addr) (d : Nat) (w : World) (hp : StrP w p a.hops) (hq : StrP w q b.hops) (hl : a.hops.length ≤ 1099511627776) (za : SzM a) (zb : SzM b) :
    Calls Tryd.prog 12 #[mxA a p c, mxA b q d] w fun e w' => e = .returned (.bool (eqM a b)) ∧ K0 w w' := by
  refine vc_xsame a.fu a.fs a.tu a.ts a.n a.d a.sj p a.hops.length c a.bd b.fu b.fs b.tu b.ts b.n b.d b.sj q b.hops.length d b.bd w _ (fun n1 n2 => ?_)
  refine ⟨_, axEq _ _ _ _ za.1 za.2.1 zb.1 zb.2.1, a.tu, a.ts, gimp_intro fun _ W hW => AtL_block (hW.cells 1 rfl) rfl, b.tu, b.ts, gimp_intro fun _ W hW => AtL_block (hW.cells 0 rfl) rfl, _, gimp_intro fun _ => axEq _ _ _ _ za.2.2.1 za.2.2.2 zb.2.2.1 zb.2.2.2, ?_⟩
  refine ⟨a.n, gimp_intro fun _ W hW => cell_at (hW.cells 1 rfl) rfl, b.n, gimp_intro fun _ W hW => cell_at (hW.cells 0 rfl) rfl, a.d, gimp_intro fun _ W hW => cell_at (hW.cells 1 rfl) rfl, b.d, gimp_intro fun _ W hW => cell_at (hW.cells 0 rfl) rfl, ?_⟩
  refine ⟨a.sj, gimp_intro fun _ W hW => cell_at (hW.cells 1 rfl) rfl, b.sj, gimp_intro fun _ W hW => cell_at (hW.cells 0 rfl) rfl, a.bd, gimp_intro fun _ W hW => cell_at (hW.cells 1 rfl) rfl, b.bd, gimp_intro fun _ W hW => cell_at (hW.cells 0 rfl) rfl, ?_⟩
  refine ⟨p, a.hops.length, c, gimp_intro fun _ W hW => cell_at (hW.cells 1 rfl) rfl, q, b.hops.length, d, gimp_intro fun _ W hW => cell_at (hW.cells 0 rfl) rfl, fun W hW => ?_⟩
  have kW : K0 w W := hW.kk rfl
  refine bsp_intro (fun h => ?_) (fun h => ?_)
  · refine ⟨(r1same_any a.hops b.hops p c q d W (hp.k0 kW) (hq.k0 kW) hl).mono fun e w1 ⟨he, k1⟩ => ⟨_, he, .of_k0 k1, ?_, kW.trans k1⟩⟩
    have e1 : eqM a b = (true && decide (a.hops = b.hops)) := by
      rw [← h]; unfold eqM
      generalize decide (a.hops = b.hops) = z
      generalize (a.bd.toList == b.bd.toList) = y
      cases z <;> cases y <;> simp
    rw [e1]
  · refine ⟨.refl _ _, ?_, kW⟩
    have e1 : eqM a b = false := by
      unfold eqM
      generalize decide (a.hops = b.hops) = z
      generalize hy : (a.bd.toList == b.bd.toList) = y at h
      cases z <;> cases y <;> simp_all
    rw [e1]
theorem xbounce_any (m : Ml) (p : Option Addr) (c : Nat) (s : ByteArray) (code now : Int) (w : World) (hR : StrP w p m.hops) (hc : m.hops.length ≤ c) (hz : SzM m) (hhl : m.hops.length ≤ 4611686018427387904) (hcode : I64 code) :
    Calls Tryd.prog 10 #[mxA m p c, .string s, .int .i64 code, .int .i64 now] w fun e w' => e = .returned (.tuple #[mxA ((bncM m s code now).getD mz) none 0, .bool (bncM m s code now).isSome]) ∧ K0 w w' := by
  refine vc_xbounce m.fu m.fs m.tu m.ts m.n m.d m.sj p m.hops.length c m.bd s code now w _ (fun n1 n2 W hW => ?_)
  have kW : K0 w W := hW.kk rfl
  rw [toList_nil]
  unfold bncM
  refine bsp_intro (fun h => ?_) (fun h => ?_)
  · rw [if_neg (by simpa using h)]
    refine ⟨(xcheck_any m p c W (hR.k0 kW) hc ⟨hz.1, hz.2.2.1⟩ hhl).mono fun e w1 ⟨he, k1⟩ => ⟨_, he, .of_k0 k1, bsp_intro (fun h => ?_) (fun h => ⟨.refl _ _, fun W2 hW2 => ?_⟩)⟩⟩
    · have h0 : chkM m = 0 := by simpa using h
      obtain ⟨z1, z2, z3, z4, z5, z6, z7, z8, z9, z10, z11, z12⟩ := chkM_bd h0
      refine ⟨(xsite_any s w1).mono fun e w2 ⟨he, k2⟩ => ⟨_, he, .of_k0 k2, bsp_intro (fun h => fun W2 hW2 => ?_) (fun h => ?_)⟩⟩
      · have h1 : siteE s ≠ 0 ∨ minB now = false := by simpa using h
        have e1 : (if chkM m ≠ 0 ∨ minB now = false then (none : Option Ml) else if siteE s ≠ 0 then none else some ⟨⟨#[]⟩, s, m.fu, m.fs, m.n, now, ⟨#[78, 111, 116, 32, 100, 101, 108, 105, 118, 101, 114, 101, 100]⟩, [], m.tu ++ ⟨#[64]⟩ ++ m.ts ++ ⟨#[32]⟩ ++ decI code ++ ⟨#[10]⟩ ++ m.sj ++ ⟨#[10]⟩⟩) = none := by
          split
          · rfl
          · rename_i h2
            rw [if_pos (h1.resolve_right fun h => h2 (.inr h))]
        rw [e1]
        exact ⟨rfl, hW2.k0 ((kW.trans k1).trans k2)⟩
      have h1 : siteE s = 0 ∧ minB now = true := by simpa using h
      rw [if_neg (by rw [h0, h1.2]; simp), if_neg (by rw [h1.1]; simp)]
      intro W3 hW3
      have k3 : K0 w2 W3 := hW3.kk rfl
      have k03 := ((kW.trans k1).trans k2).trans k3
      have hc2 : W3.heap[n2]? = some (.cells #[.string ⟨#[]⟩, .string ⟨#[]⟩, .string ⟨#[]⟩, .string ⟨#[]⟩, .int .i64 0, .int .i64 0, .string ⟨#[]⟩, .slice none 0 0, .string ⟨#[]⟩] 26 (0, 0)) := hW3.cells 0 rfl
      have hc1 : W3.heap[n1]? = some (.cells #[.string m.fu, .string m.fs, .string m.tu, .string m.ts, .int .i64 m.n, .int .i64 m.d, .string m.sj, .slice p m.hops.length c, .string m.bd] 26 (0, 0)) := hW3.cells 1 rfl
      have g2 : w.heap.size ≤ n2 := hW.fresh 0 rfl rfl
      have hne : n2 ≠ n1 := hW.apart 0 1 rfl rfl (by decide)
      have hat : ∀ (o : Nat) (cs : List Value), ((#[.string m.fu, .string m.fs, .string m.tu, .string m.ts, .int .i64 m.n, .int .i64 m.d, .string m.sj, .slice p m.hops.length c, .string m.bd] : Array Value).toList.drop o).take cs.length = cs → ∀ wx, K0 W3 wx → AtL wx n1 o cs := fun o cs hcs wx k => AtL_block (k.blk hc1 (fun h => h)) hcs
      refine ⟨fun wx => K0 W3 wx, .refl _ _, m.fu, m.fs, fun wx k => hat 0 _ rfl wx k, m.n, fun wx k => cell_at (k.blk hc1 (fun h => h)) rfl, m.tu, m.ts, fun wx k => hat 2 _ rfl wx k, m.sj, fun wx k => cell_at (k.blk hc1 (fun h => h)) rfl, ?_⟩
      refine ⟨(xtext_any m.tu m.ts W3 (by omega) (by omega)).mono fun e w4 ⟨he, k4⟩ => ⟨_, he, k4, nneg (by simp only [ByteArray.size_append, size_one]; omega), ?_⟩⟩
      have hd := decI_size hcode
      refine ⟨(r1digits_any code w4 hcode).mono fun e w5 ⟨he, k5⟩ => ⟨_, he, k4.trans k5, nneg (by simp only [ByteArray.size_append, size_one]; omega), nneg (by simp only [ByteArray.size_append, size_one]; omega), nneg (by simp only [ByteArray.size_append, size_one]; omega), nneg (by simp only [ByteArray.size_append, size_one]; omega), ?_⟩⟩
      have hc5 := (k4.trans k5).blk hc2 (fun h => h)
      refine ⟨WrL_block hc5 (Nat.le_refl 9), fun w6 hp => ?_⟩
      have hc6 := hp.full hc5 rfl
      refine ⟨⟨by rw [hp.size]; exact (k4.trans k5).size, fun x hx hlt' => ?_⟩, _, _, _, _, _, _, _, _, _, _, _, AtL_block hc6 rfl, rfl, put_k0 (k03.trans (k4.trans k5)) hp g2⟩
      obtain rfl : x = n1 := by simpa using hx
      rw [hp.blk ((k4.trans k5).blk hc1 (fun h => h)) (fun e => hne e.symm), hc1]
    · have h0 : chkM m ≠ 0 := by simpa using h
      rw [if_pos (.inl h0)]
      exact ⟨rfl, hW2.k0 (kW.trans k1)⟩
  · rw [if_pos (by simpa using h)]
    exact ⟨.refl _ _, .refl _ _, fun W2 hW2 => ⟨rfl, hW2.k0 kW⟩⟩

theorem bnc_no (m : Ml) (s : ByteArray) (code now : Int) (h : m.fu.size = 0) : bncM m s code now = none := by unfold bncM; rw [if_pos h]
theorem bnc_get {m : Ml} {s : ByteArray} {code now : Int} (hcode : I64 code) : ((bncM m s code now).getD mz).fu.size = 0 ∧ ((bncM m s code now).getD mz).hops = [] ∧ SzM ((bncM m s code now).getD mz) ∧ ((bncM m s code now).getD mz).bd.size ≤ 32768 ∧ ((bncM m s code now).isSome = true → chkM ((bncM m s code now).getD mz) = 0) := by
  cases h : bncM m s code now with
  | none => exact ⟨rfl, rfl, ⟨by decide, by decide, by decide, by decide⟩, by decide, fun h => by cases h⟩
  | some y =>
    obtain ⟨h1, h2, h3⟩ := bnc_ok hcode h
    obtain ⟨z1, z2, z3, z4, z5, z6, z7, z8, z9, z10, z11, z12⟩ := chkM_bd h1
    simp only [Option.getD_some]
    exact ⟨h3, h2, ⟨by omega, by omega, by omega, by omega⟩, z12, fun _ => h1⟩
theorem strP_nil (w : World) (p : Option Addr) : StrP w p [] := fun k z h => by simp at h
set_option maxHeartbeats 1000000 in
theorem lbounce_any (m : Ml) (p : Option Addr) (c : Nat) (s : ByteArray) (code now : Int) (w : World) (hR : StrP w p m.hops) (hhl : m.hops.length ≤ 4611686018427387904) (hz : SzM m) (hT : GT w) (hcode : I64 code) :
    Calls Tryd.prog 3 #[mxA m p c, .string s, .int .i64 code, .int .i64 now] w fun e w' => e = .returned (.bool true) ∧ K0 w w' := by
  refine vc_lbounce m.fu m.fs m.tu m.ts m.n m.d m.sj p m.hops.length c m.bd s code now w _ (fun n1 W hW => ?_)
  have kW : K0 w W := hW.kk rfl
  refine ⟨(to_any m p c W (hR.k0 kW) hhl).mono fun e w1 ⟨⟨q1, d1, he, ho1⟩, k1⟩ => ⟨_, _, _, _, _, _, _, _, _, _, _, he, .of_k0 k1, fun n3 => ⟨by split <;> omega, fun W2 hW2 => ?_⟩⟩⟩
  generalize s.extract 0 _ = s'
  have hzx : SzM (toM m) := hz
  have hlx : (toM m).hops.length ≤ 20 := by show (m.hops.take 20).length ≤ 20; rw [List.length_take]; omega
  have hbx : (toM m).bd.size ≤ 33000 := by show (m.bd.extract 0 (min m.bd.size 33000)).size ≤ 33000; rw [ByteArray.size_extract]; omega
  generalize toM m = x at ho1 hzx hlx hbx
  have hr1 : StrP w1 q1 x.hops := strP_own ho1
  have hd1 : x.hops.length ≤ d1 := own_le ho1
  have k2 : K0 w1 W2 := hW2.kk rfl
  have k02 := (kW.trans k1).trans k2
  refine ⟨(bounce_any x q1 d1 s' code now W2 (hr1.k0 k2) hd1 (by omega) (by omega) (hT.k0 k02) hcode).mono fun e w3 ⟨he, k3⟩ => ⟨_, _, _, _, _, _, _, _, _, _, _, _, he, .of_k0 k3, fun n5 W4 hW4 => ?_⟩⟩
  have k4 : K0 w3 W4 := hW4.kk rfl
  have k04 := (k02.trans k3).trans k4
  refine ⟨(of_any x q1 d1 W4 (hr1.k0 ((k2.trans k3).trans k4)) (by omega)).mono fun e w5 ⟨⟨q2, d2, he, ho2⟩, k5⟩ => ⟨_, _, _, _, _, _, _, _, _, _, _, he, .of_k0 k5, ?_⟩⟩
  refine ⟨(xbounce_any x q2 d2 s' code now w5 (strP_own ho2) (own_le ho2) hzx (by omega) hcode).mono fun e w6 ⟨he, k6⟩ => ⟨_, _, _, _, _, _, _, _, _, _, _, _, he, .of_k0 k6, fun n8 W7 hW7 => ?_⟩⟩
  have k7 : K0 w6 W7 := hW7.kk rfl
  have k07 := ((k04.trans k5).trans k6).trans k7
  obtain ⟨g1, g2, g3, g4, g5⟩ := @bnc_get x s' code now hcode
  have hb8 := hW7.cells 0 rfl
  have hb5 := hW7.cells 1 rfl
  generalize hB : (bncM x s' code now).getD mz = B at *
  generalize hI : (bncM x s' code now).isSome = I at *
  refine ⟨fun wx => K0 W7 wx, .refl _ _, _, _, _, _, _, _, _, _, _, _, _, gimp_intro fun _ wx k => AtL_block (k.blk hb5 (fun h => h)) rfl, _, _, _, _, _, _, _, _, _, _, _, gimp_intro fun _ wx k => AtL_block (k.blk hb8 (fun h => h)) rfl, bsp_intro (fun _ => ?_) (fun h => ?_)⟩
  · refine ⟨(of_any B none 0 W7 (by rw [g2]; exact strP_nil _ _) (by rw [g2]; decide)).mono fun e w8 ⟨⟨q3, d3, he, ho3⟩, k8⟩ => ⟨_, _, _, _, _, _, _, _, _, _, _, he, k8, ?_⟩⟩
    refine ⟨(xsame_any B B q3 d3 none 0 w8 (strP_own ho3) (by rw [g2]; exact strP_nil _ _) (by rw [g2]; decide) g3 g3).mono fun e w9 ⟨he, k9⟩ => ⟨_, he, .of_k0 (k8.trans k9), ?_⟩⟩
    rw [eqM_self]
    refine bsp_intro (fun h => by cases h) (fun _ => ?_)
    have k09 := (k07.trans k8).trans k9
    refine ⟨(bounce_any B none 0 s' code now w9 (by rw [g2]; exact strP_nil _ _) (by rw [g2]; decide) (by omega) (by rw [g2]; decide) (hT.k0 k09) hcode).mono fun e w10 ⟨he, k10⟩ => ⟨_, _, _, _, _, _, _, _, _, _, _, _, he, .of_k0 k10, fun n13 W11 hW11 => ?_⟩⟩
    have k011 := (k09.trans k10).trans (hW11.kk rfl : K0 w10 W11)
    rw [bnc_no B s' code now g1]
    refine ⟨(known_any W11 (hT.k0 k011)).mono fun e w12 ⟨he, k12⟩ => ⟨_, he, .of_k0 k12, bsp_intro (fun _ => bsp_intro (fun h => ?_) (fun _ => ?_)) (fun h => by cases h)⟩⟩
    · refine ⟨(mcheck_any B none 0 w12 (by rw [g2]; exact strP_nil _ _) (by rw [g2]; decide) (by omega) (by rw [g2]; decide)).mono fun e w13 ⟨he, k13⟩ => ⟨_, he, .of_k0 k13, ?_, (k011.trans k12).trans k13⟩⟩
      rw [g5 (by simpa using h)]; rfl
    · exact ⟨.refl _ _, rfl, k011.trans k12⟩
  · simp at h

end Go.Proofs.YtmlmdljnfokebaaDoor

/- Chapter 49: Pass, of the program and of the reference. Messages that are not too great. -/
namespace Go.Proofs.YtmlmdljnfokebaaDoor
open Go.RowKit Go.Maps

theorem own_not {w : World} {base : Nat} {e t : TypeId} {size : Nat} {v : Value} {n : Nat} {xs : List Value} (h : w.ownsRow base e size v n xs) {k : Nat} {c : Array Value} {f : Nat × Nat} (hk : w.heap[k]? = some (.cells c t f)) (hne : (t == e) = false) : ¬ v.ownBlock = some k := fun he => by
  obtain ⟨c', h1⟩ := own_type h he
  rw [hk] at h1
  simp at h1
  rw [h1.2.1] at hne
  simp at hne
theorem own_loc {z : Nat} {T : List Blk} {w W : World} {base : Nat} {e : TypeId} {size : Nat} {v : Value} {n : Nat} {xs : List Value} (ho : w.ownsRow base e size v n xs) (hL : Loc z T w W) (hT : ∀ b ∈ T, ¬ v.ownBlock = some b.n) : W.ownsRow base e size v n xs :=
  owns_kp ho hL.kp (fun k hk ⟨x, hx, h3, h4⟩ => hT x hx (by rw [hk]; first | rw [h4] | rw [← h4]))
theorem src_str {w : World} {p : Option Addr} {l : List ByteArray} (h : StrP w p l) : SrcP w p (l.map .string) := by
  refine ⟨fun j u hj => ?_, fun u hu => ?_⟩
  · rw [List.getElem?_map] at hj
    cases hz : l[j]? with
    | none => rw [hz] at hj; cases hj
    | some z => rw [hz] at hj; cases hj; exact h j z hz
  · obtain ⟨z, _, rfl⟩ := List.mem_map.1 hu; rfl
/-- What Pass does. -/
def passM (m : Ml) (s : ByteArray) : Ml × Int :=
  if chkM m ≠ 0 then (mz, chkM m) else if siteE s ≠ 0 then (mz, siteE s) else if Lib.containsS m.hops s = true then (mz, 24) else if 16 ≤ m.hops.length then (mz, 9) else
  (⟨m.fu, m.fs, m.tu, m.ts, m.n, m.d, m.sj, m.hops ++ [s], m.bd⟩, 0)
/-- A message whose row of hops is new. -/
def MR (w w' : World) (x : Ml) (q : Option Addr) (d : Nat) : Prop := w'.ownsRow w.heap.size 9 1 (.slice q x.hops.length d) x.hops.length (x.hops.map .string)
theorem mr_nil (w w' : World) : MR w w' mz none 0 := World.ownsRow_nil _ _ _ _
theorem mr_add {w w' : World} {m : Ml} {s : ByteArray} {base : Nat} {q : Option Addr} {d : Nat} (h : w'.ownsRow base 9 1 (.slice q (m.hops.length + 1) d) (m.hops.length + 1) (m.hops.map .string ++ [.string s])) (hb : w.heap.size ≤ base) : MR w w' ⟨m.fu, m.fs, m.tu, m.ts, m.n, m.d, m.sj, m.hops ++ [s], m.bd⟩ q d := by
  unfold MR
  have e1 : (m.hops ++ [s]).length = m.hops.length + 1 := by simp
  have e2 : (m.hops ++ [s]).map Value.string = m.hops.map .string ++ [.string s] := by simp
  show w'.ownsRow _ _ _ (.slice q (m.hops ++ [s]).length d) (m.hops ++ [s]).length ((m.hops ++ [s]).map .string)
  rw [e1, e2]
  exact own_base h hb
theorem mx_add (m : Ml) (s : ByteArray) (q : Option Addr) (d : Nat) : mxA ⟨m.fu, m.fs, m.tu, m.ts, m.n, m.d, m.sj, m.hops ++ [s], m.bd⟩ q d = .agg #[.string m.fu, .string m.fs, .string m.tu, .string m.ts, .int .i64 m.n, .int .i64 m.d, .string m.sj, .slice q (m.hops.length + 1) d, .string m.bd] := by
  show Value.agg _ = .agg _
  rw [show (m.hops ++ [s]).length = m.hops.length + 1 by simp]
theorem mpass_any (m : Ml) (p : Option Addr) (c : Nat) (s : ByteArray) (w : World) (hR : StrP w p m.hops) (hc : m.hops.length ≤ c) (hb : m.bd.size ≤ 4611686018427387904) (hhl : m.hops.length ≤ 4611686018427387904) :
    Calls Tryd.prog 17 #[mxA m p c, .string s] w fun e w' => (∃ (q : Option Addr) (d : Nat), e = .returned (.tuple #[mxA (passM m s).1 q d, .int .i64 (passM m s).2]) ∧ MR w w' (passM m s).1 q d) ∧ K0 w w' := by
  refine vc_mpass m.fu m.fs m.tu m.ts m.n m.d m.sj p m.hops.length c m.bd s w _ (fun n1 n2 W hW => ?_)
  have kW : K0 w W := hW.kk rfl
  refine ⟨(mcheck_any m p c W (hR.k0 kW) hc hb hhl).mono fun e w1 ⟨he, k1⟩ => ⟨_, he, .of_k0 k1, bsp_intro (fun h => fun W2 hW2 => ?_) (fun h => ?_)⟩⟩
  · have e1 : passM m s = (mz, chkM m) := by unfold passM; rw [if_pos (by simpa using h)]
    rw [e1]; exact ⟨⟨none, 0, rfl, mr_nil _ _⟩, hW2.k0 (kW.trans k1)⟩
  have h1 : chkM m = 0 := by simpa using h
  obtain ⟨z1, z2, z3, z4, z5, z6, z7, z8, z9, z10, z11, z12⟩ := chkM_bd h1
  have k01 := kW.trans k1
  refine ⟨(siteK_any s w1).mono fun e w2 ⟨he, k2⟩ => ⟨_, _, he, .of_k0 k2, bsp_intro (fun h => fun W2 hW2 => ?_) (fun h => ?_)⟩⟩
  · have e1 : passM m s = (mz, siteE s) := by unfold passM; rw [if_neg (by rw [h1]; decide), if_pos (show siteE s ≠ 0 by simpa [siteE] using h)]
    rw [e1]; exact ⟨⟨none, 0, rfl, mr_nil _ _⟩, hW2.k0 (k01.trans k2)⟩
  have h2 : siteE s = 0 := by simpa [siteE] using h
  have k02 := k01.trans k2
  refine ⟨(contains_any m.hops m.hops.length s p c w2 (hR.k0 k02) (Nat.le_refl _) hhl).mono fun e w3 ⟨he, k3⟩ => ⟨_, he, .of_k0 k3, ?_⟩⟩
  rw [List.take_length]
  have k03 := k02.trans k3
  refine bsp_intro (fun h => fun W2 hW2 => ?_) (fun h => ?_)
  · have e1 : passM m s = (mz, 24) := by unfold passM; rw [if_neg (by rw [h1]; decide), if_neg (by rw [h2]; decide), if_pos h]
    rw [e1]; exact ⟨⟨none, 0, rfl, mr_nil _ _⟩, hW2.k0 k03⟩
  have h3 : ¬ Lib.containsS m.hops s = true := by rw [h]; decide
  refine bsp_intro (fun h => fun W2 hW2 => ?_) (fun h => ?_)
  · have e1 : passM m s = (mz, 9) := by unfold passM; rw [if_neg (by rw [h1]; decide), if_neg (by rw [h2]; decide), if_neg h3, if_pos (by simp at h; omega)]
    rw [e1]; exact ⟨⟨none, 0, rfl, mr_nil _ _⟩, hW2.k0 k03⟩
  have h4 : ¬ 16 ≤ m.hops.length := by simp at h; omega
  have e1 : passM m s = (⟨m.fu, m.fs, m.tu, m.ts, m.n, m.d, m.sj, m.hops ++ [s], m.bd⟩, 0) := by unfold passM; rw [if_neg (by rw [h1]; decide), if_neg (by rw [h2]; decide), if_neg h3, if_neg h4]
  rw [e1]
  refine ⟨(clone_any m p c w3 (hR.k0 k03) (by omega)).mono fun e w4 ⟨⟨q, d, he, ho4⟩, k4⟩ => ⟨_, _, _, _, _, _, _, _, _, _, _, he, .of_k0 k4, fun n4 n5 W5 hW5 => ?_⟩⟩
  have k5 : K0 w4 W5 := hW5.kk rfl
  have ho5 := owns_kp ho4 k5 (fun _ _ h => h)
  have c4 := hW5.cells 1 rfl
  have c2 := hW5.cells 2 rfl
  have c1 := hW5.cells 3 rfl
  have k05 := (k03.trans k4).trans k5
  refine ⟨w3.heap.size, _, ho5, by omega, by omega, Nat.le_trans k4.size k5.size, fun q' d' w6 ho6 hg6 _ => ⟨?_, fun W7 hW7 => ?_⟩⟩
  · refine .of_kp (kp_grown hg6) (fun z hz => ?_)
    simp only [List.mem_cons, List.not_mem_nil, or_false] at hz
    rcases hz with rfl | rfl | rfl
    · exact own_not ho5 c4 rfl
    · exact own_not ho5 c2 rfl
    · exact own_not ho5 c1 rfl
  · have k6 := kp_grown hg6
    have k06 : K0 w w6 := k05.fresh k6 (fun j hj e => by have := own_ge ho5 e; have := k03.size; omega)
    have ho7 := own_loc ho6 hW7 (fun b hb => by
      simp only [List.mem_cons, List.not_mem_nil, or_false] at hb
      rcases hb with rfl | rfl | rfl
      · exact own_not ho6 (k6.blk c4 (own_not ho5 c4 rfl)) rfl
      · exact own_not ho6 (k6.blk c2 (own_not ho5 c2 rfl)) rfl
      · exact own_not ho6 (k6.blk c1 (own_not ho5 c1 rfl)) rfl)
    exact ⟨⟨q', d', by rw [mx_add], mr_add ho7 k03.size⟩, hW7.k0 k06⟩

theorem xpass_any (m : Ml) (p : Option Addr) (c : Nat) (s : ByteArray) (w : World) (hR : StrP w p m.hops) (hc : m.hops.length ≤ c) (hz : SzM m) (hhl : m.hops.length ≤ 4611686018427387904) :
    Calls Tryd.prog 18 #[mxA m p c, .string s] w fun e w' => (∃ (q : Option Addr) (d : Nat), e = .returned (.tuple #[mxA (passM m s).1 q d, .int .i64 (passM m s).2]) ∧ MR w w' (passM m s).1 q d) ∧ K0 w w' := by
  refine vc_xpass m.fu m.fs m.tu m.ts m.n m.d m.sj p m.hops.length c m.bd s w _ (fun n1 n2 W hW => ?_)
  have kW : K0 w W := hW.kk rfl
  refine ⟨(xcheck_any m p c W (hR.k0 kW) hc ⟨hz.1, hz.2.2.1⟩ hhl).mono fun e w1 ⟨he, k1⟩ => ⟨_, he, .of_k0 k1, bsp_intro (fun h => ?_) (fun h => ?_)⟩⟩
  · refine ⟨(xcheck_any m p c w1 (hR.k0 (kW.trans k1)) hc ⟨hz.1, hz.2.2.1⟩ hhl).mono fun e w2 ⟨he, k2⟩ => ⟨_, he, .of_k0 k2, fun W2 hW2 => ?_⟩⟩
    have e1 : passM m s = (mz, chkM m) := by unfold passM; rw [if_pos (by simpa using h)]
    rw [e1]; exact ⟨⟨none, 0, rfl, mr_nil _ _⟩, hW2.k0 ((kW.trans k1).trans k2)⟩
  have h1 : chkM m = 0 := by simpa using h
  obtain ⟨z1, z2, z3, z4, z5, z6, z7, z8, z9, z10, z11, z12⟩ := chkM_bd h1
  have k01 := kW.trans k1
  refine ⟨(xsite_any s w1).mono fun e w2 ⟨he, k2⟩ => ⟨_, he, .of_k0 k2, bsp_intro (fun h => ?_) (fun h => ?_)⟩⟩
  · refine ⟨(xsite_any s w2).mono fun e w3 ⟨he, k3⟩ => ⟨_, he, .of_k0 k3, fun W2 hW2 => ?_⟩⟩
    have e1 : passM m s = (mz, siteE s) := by unfold passM; rw [if_neg (by rw [h1]; decide), if_pos (by simpa using h)]
    rw [e1]; exact ⟨⟨none, 0, rfl, mr_nil _ _⟩, hW2.k0 ((k01.trans k2).trans k3)⟩
  have h2 : siteE s = 0 := by simpa using h
  have k02 := k01.trans k2
  refine ⟨(xhas_any m.hops m.hops.length s p c w2 (hR.k0 k02) (Nat.le_refl _) hhl).mono fun e w3 ⟨he, k3⟩ => ⟨_, he, .of_k0 k3, ?_⟩⟩
  rw [List.take_length]
  have k03 := k02.trans k3
  refine bsp_intro (fun h => fun W2 hW2 => ?_) (fun h => ?_)
  · have e1 : passM m s = (mz, 24) := by unfold passM; rw [if_neg (by rw [h1]; decide), if_neg (by rw [h2]; decide), if_pos h]
    rw [e1]; exact ⟨⟨none, 0, rfl, mr_nil _ _⟩, hW2.k0 k03⟩
  have h3 : ¬ Lib.containsS m.hops s = true := by rw [h]; decide
  refine bsp_intro (fun h => fun W2 hW2 => ?_) (fun h => ?_)
  · have e1 : passM m s = (mz, 9) := by unfold passM; rw [if_neg (by rw [h1]; decide), if_neg (by rw [h2]; decide), if_neg h3, if_pos (by simp at h; omega)]
    rw [e1]; exact ⟨⟨none, 0, rfl, mr_nil _ _⟩, hW2.k0 k03⟩
  have h4 : ¬ 16 ≤ m.hops.length := by simp at h; omega
  have e1 : passM m s = (⟨m.fu, m.fs, m.tu, m.ts, m.n, m.d, m.sj, m.hops ++ [s], m.bd⟩, 0) := by unfold passM; rw [if_neg (by rw [h1]; decide), if_neg (by rw [h2]; decide), if_neg h3, if_neg h4]
  rw [e1]
  intro n3 W4 hW4
  have k4 : K0 w3 W4 := hW4.kk rfl
  have k04 := k03.trans k4
  have g3 : w3.heap.size ≤ n3 := hW4.fresh 0 rfl rfl
  have c2 := hW4.cells 1 rfl
  have c1 := hW4.cells 2 rfl
  have ho4 : W4.ownsRow w3.heap.size 9 1 (.slice (some ⟨n3, 0, none⟩) 0 0) 0 [] := own_none g3 (hW4.cells 0 rfl)
  rw [Nat.zero_add]
  refine ⟨w3.heap.size, _, m.hops.map .string, ho4, by simp, src_str (hR.k0 k04), by omega, by omega, k4.size, fun q1 d1 w5 ho5 hg5 _ => ⟨?_, fun n4 W6 hW6 => ?_⟩⟩
  · refine .of_kp (kp_grown hg5) (fun z hz => ?_)
    simp only [List.mem_cons, List.not_mem_nil, or_false] at hz
    rcases hz with rfl | rfl
    · exact own_not ho4 c2 rfl
    · exact own_not ho4 c1 rfl
  have k5 := kp_grown hg5
  have k05 : K0 w w5 := k04.fresh k5 (fun j hj e => by have := own_ge ho4 e; have := k03.size; omega)
  have k6 : K0 w5 W6 := hW6.kk rfl
  have ho6 := owns_kp ho5 k6 (fun _ _ h => h)
  have d2 := hW6.cells 1 rfl
  have d1' := hW6.cells 2 rfl
  rw [List.nil_append] at ho6
  refine ⟨w3.heap.size, _, ho6, by omega, by omega, Nat.le_trans (Nat.le_trans k4.size k5.size) k6.size, fun q2 d2' w7 ho7 hg7 _ => ⟨?_, fun W8 hW8 => ?_⟩⟩
  · refine .of_kp (kp_grown hg7) (fun z hz => ?_)
    simp only [List.mem_cons, List.not_mem_nil, or_false] at hz
    rcases hz with rfl | rfl
    · exact own_not ho6 d2 rfl
    · exact own_not ho6 d1' rfl
  · have k7 := kp_grown hg7
    have k07 : K0 w w7 := (k05.trans k6).fresh k7 (fun j hj e => by have := own_ge ho6 e; have := k03.size; omega)
    have ho8 := own_loc ho7 hW8 (fun b hb => by
      simp only [List.mem_cons, List.not_mem_nil, or_false] at hb
      rcases hb with rfl | rfl
      · exact own_not ho7 (k7.blk d2 (own_not ho6 d2 rfl)) rfl
      · exact own_not ho7 (k7.blk d1' (own_not ho6 d1' rfl)) rfl)
    exact ⟨⟨q2, d2', by rw [mx_add], mr_add ho8 k03.size⟩, hW8.k0 k07⟩

end Go.Proofs.YtmlmdljnfokebaaDoor

/- Chapter 49: MailPasses on worlds. No condition but the sizes that a reading gives, and the table of powers of ten. -/
namespace Go.Proofs.YtmlmdljnfokebaaDoor
open Go.RowKit Go.Maps

theorem own_rw {w : World} {base : Nat} {q : Option Addr} {d : Nat} {l : List ByteArray} (h : w.ownsRow base 9 1 (.slice q l.length d) l.length (l.map .string)) (h0 : 0 < l.length) :
    ∃ (g : Nat) (cur : Array Value), q = some ⟨g, 0, none⟩ ∧ w.heap[g]? = some (.cells cur 9 (0, 0)) ∧ l.length ≤ cur.size ∧ ∀ (j : Nat) (z : ByteArray), l[j]? = some z → cur[j]? = some (Value.string z) := by
  rcases h.2 with ⟨_, h2⟩ | ⟨g, cap, cur, hv, _, hg, h1, _, h3, h4⟩
  · omega
  · simp only [Value.slice.injEq] at hv
    refine ⟨g, cur, hv.1, hg, by omega, fun j z hz => ?_⟩
    have hj := (List.getElem?_eq_some_iff.1 hz).1
    have e : (cur.toList.take (l.length * 1))[j]? = some (.string z) := by rw [h4, List.getElem?_map, hz]; rfl
    rw [List.getElem?_take, if_pos (by omega), Array.getElem?_toList] at e
    exact e
theorem blk_ne {w : World} {a b : Nat} {c c' : Array Value} {t t' : TypeId} {f f' : Nat × Nat} (h : w.heap[a]? = some (.cells c t f)) (h' : w.heap[b]? = some (.cells c' t' f')) (hne : (t == t') = false) : a ≠ b := fun e => by
  subst e
  rw [h] at h'
  simp at h'
  rw [h'.2.1] at hne
  simp at hne
theorem pass_no {m : Ml} {s : ByteArray} (h : (passM m s).2 ≠ 0) : (passM m s).1 = mz := by
  unfold passM at *
  split
  · rfl
  rename_i a1; rw [if_neg a1] at h
  split
  · rfl
  rename_i a2; rw [if_neg a2] at h
  split
  · rfl
  rename_i a3; rw [if_neg a3] at h
  split
  · rfl
  rename_i a4; rw [if_neg a4] at h
  exact absurd rfl h
theorem pass_yes {m : Ml} {s : ByteArray} (h : (passM m s).2 = 0) : chkM m = 0 ∧ siteE s = 0 ∧ s ∉ m.hops ∧ m.hops.length < 16 ∧ (passM m s).1 = ⟨m.fu, m.fs, m.tu, m.ts, m.n, m.d, m.sj, m.hops ++ [s], m.bd⟩ := by
  unfold passM at *
  split at h
  · rename_i a; exact absurd h a
  rename_i a1
  split at h
  · rename_i a; exact absurd h a
  rename_i a2
  split at h
  · cases h
  rename_i a3
  split at h
  · cases h
  rename_i a4
  rw [if_neg a1, if_neg a2, if_neg a3, if_neg a4]
  exact ⟨Classical.byContradiction a1, Classical.byContradiction a2, fun h => a3 ((Lib.containsS_iff _ _).2 h), by omega, rfl⟩
theorem pass_bd (m : Ml) (s : ByteArray) : (passM m s).1.hops.length ≤ 17 ∧ SzM (passM m s).1 ∧ (passM m s).1.bd.size ≤ 32768 := by
  by_cases h : (passM m s).2 = 0
  · obtain ⟨h1, h2, h3, h4, h5⟩ := pass_yes h
    obtain ⟨z1, z2, z3, z4, z5, z6, z7, z8, z9, z10, z11, z12⟩ := chkM_bd h1
    rw [h5]
    exact ⟨by simp; omega, ⟨by show m.fu.size ≤ _; omega, by show m.fs.size ≤ _; omega, by show m.tu.size ≤ _; omega, by show m.ts.size ≤ _; omega⟩, z12⟩
  · rw [pass_no h]; exact ⟨by decide, ⟨by decide, by decide, by decide, by decide⟩, by decide⟩
def nohop (m : Ml) : Ml := ⟨m.fu, m.fs, m.tu, m.ts, m.n, m.d, m.sj, [], m.bd⟩
set_option maxHeartbeats 1000000 in
theorem lpass_any (m : Ml) (p : Option Addr) (c : Nat) (s : ByteArray) (w : World) (hR : StrP w p m.hops) (hhl : m.hops.length ≤ 4611686018427387904) (hz : SzM m) (hT : GT w) :
    Calls Tryd.prog 5 #[mxA m p c, .string s] w fun e w' => e = .returned (.bool true) ∧ K0 w w' := by
  refine vc_lpass m.fu m.fs m.tu m.ts m.n m.d m.sj p m.hops.length c m.bd s w _ (fun n1 W hW => ?_)
  have kW : K0 w W := hW.kk rfl
  refine ⟨(to_any m p c W (hR.k0 kW) hhl).mono fun e w1 ⟨⟨q1, d1, he, ho1⟩, k1⟩ => ⟨_, _, _, _, _, _, _, _, _, _, _, he, .of_k0 k1, fun n3 => ⟨by split <;> omega, fun W2 hW2 => ?_⟩⟩⟩
  generalize s.extract 0 _ = s'
  have hzx : SzM (toM m) := hz
  have hlx : (toM m).hops.length ≤ 20 := by show (m.hops.take 20).length ≤ 20; rw [List.length_take]; omega
  have hbx : (toM m).bd.size ≤ 33000 := by show (m.bd.extract 0 (min m.bd.size 33000)).size ≤ 33000; rw [ByteArray.size_extract]; omega
  generalize hx : toM m = x at *
  have hr1 : StrP w1 q1 x.hops := strP_own ho1
  have hd1 : x.hops.length ≤ d1 := own_le ho1
  have k2 : K0 w1 W2 := hW2.kk rfl
  have k02 := (kW.trans k1).trans k2
  obtain ⟨b1, b2, b3⟩ := pass_bd x s'
  have hno := @pass_no x s'
  have hmp := mpass_any x q1 d1 s' W2 (hr1.k0 k2) hd1 (by omega) (by omega)
  have hxp : ∀ (q : Option Addr) (d : Nat) (w : World), StrP w q x.hops → x.hops.length ≤ d → _ := fun q d w h1 h2 => xpass_any x q d s' w h1 h2 hzx (by omega)
  generalize hY : (passM x s').1 = Y at *
  generalize hE : (passM x s').2 = E at *
  refine ⟨hmp.mono fun e w3 ⟨⟨qy, dy, he, hoy⟩, k3⟩ => ⟨_, _, _, _, _, _, _, _, _, _, _, _, he, .of_k0 k3, fun n5 W4 hW4 => ?_⟩⟩
  have k4 : K0 w3 W4 := hW4.kk rfl
  have k04 := (k02.trans k3).trans k4
  refine ⟨(of_any x q1 d1 W4 (hr1.k0 ((k2.trans k3).trans k4)) (by omega)).mono fun e w5 ⟨⟨q2, d2, he, ho2⟩, k5⟩ => ⟨_, _, _, _, _, _, _, _, _, _, _, he, .of_k0 k5, ?_⟩⟩
  refine ⟨(hxp q2 d2 w5 (strP_own ho2) (own_le ho2)).mono fun e w6 ⟨⟨qz, dz, he, hoz⟩, k6⟩ => ⟨_, _, _, _, _, _, _, _, _, _, _, _, he, .of_k0 k6, fun n8 W7 hW7 => ?_⟩⟩
  have k7 : K0 w6 W7 := hW7.kk rfl
  have k37 := ((k4.trans k5).trans k6).trans k7
  have k07 := (k02.trans k3).trans k37
  have hoy7 := owns_kp hoy k37 (fun _ _ h => h)
  have hoz7 := owns_kp hoz k7 (fun _ _ h => h)
  have ho17 := owns_kp ho1 ((k2.trans k3).trans k37) (fun _ _ h => h)
  have hb3 := hW7.cells 2 rfl
  have hb1 := hW7.cells 3 rfl
  have hgy : ∀ g, (Value.slice qy Y.hops.length dy).ownBlock = some g → W2.heap.size ≤ g ∧ g < w3.heap.size := fun g h => ⟨own_ge hoy h, own_lt hoy h⟩
  have hn8 := hW7.cells 0 rfl
  have hn5 := hW7.cells 1 rfl
  have keep : ∀ w' : World, Kp (fun k => (Value.slice qy Y.hops.length dy).ownBlock = some k) W7 w' → K0 w w' ∧ StrP w' qz Y.hops ∧ StrP w' q1 x.hops := fun w' hk => by
    refine ⟨k07.fresh hk (fun j hj e => by have := (hgy j e).1; have := k02.size; omega), strP_own (owns_kp hoz7 hk (fun k h1 h2 => ?_)), strP_own (owns_kp ho17 hk (fun k h1 h2 => ?_))⟩
    · have g1 : w5.heap.size ≤ k := own_ge hoz h1
      have := (hgy k h2).2; have := k4.size; have := k5.size; omega
    · have g1 := own_lt ho1 h1
      have := (hgy k h2).1; have := k2.size; omega
  refine ⟨fun vs w' => ∃ i : Nat, vs = [.int .i64 (i : Int)] ∧ i ≤ Y.hops.length ∧ Kp (fun k => (Value.slice qy Y.hops.length dy).ownBlock = some k) W7 w' ∧
      (i < Y.hops.length → ∃ (g : Nat) (cur : Array Value), qy = some ⟨g, 0, none⟩ ∧ w'.heap[g]? = some (.cells cur 9 (0, 0)) ∧ Y.hops.length ≤ cur.size ∧ ∀ (j : Nat) (z : ByteArray), i ≤ j → Y.hops[j]? = some z → cur[j]? = some (Value.string z)),
    fun vs _ => (match vs with | .int _ x :: _ => Y.hops.length - x.toNat | _ => 0), ⟨0, rfl, by omega, .refl _ _, fun h => ?_⟩, ?_⟩
  · obtain ⟨g, cur, h1, h2, h3, h4⟩ := own_rw hoy7 h
    exact ⟨g, cur, h1, h2, h3, fun j z _ hz => h4 j z hz⟩
  rintro v w8 ⟨i, hv, hi, hk8, hc8⟩ hL8
  simp only [List.cons.injEq, Value.int.injEq, true_and, and_true] at hv
  subst hv
  obtain ⟨k08, hz8, hx8⟩ := keep w8 hk8
  refine bsp_intro (fun hlt => ?_) (fun hge => ?_)
  · have hlt : i < Y.hops.length := by simp at hlt; omega
    obtain ⟨g, cur, hq, hg, hsz, hcur⟩ := hc8 hlt
    obtain ⟨z, bz, oz, hzi, hpz, hcz⟩ := str_get hz8 hlt
    rw [Int.toNat_natCast]
    have hcy : ∀ W, K0 w8 W → W.heap[g]? = some (.cells cur 9 (0, 0)) := fun W k => k.blk hg (fun h => h)
    refine nn_is hq ⟨⟨by omega, by omega⟩, z, fun W hW => cell_at (hcy W (hW.kk rfl)) (by rw [Nat.zero_add]; exact hcur i z (Nat.le_refl _) hzi), nn_is hpz ⟨⟨by omega, by omega⟩, z, fun W hW => (hW.kk rfl : K0 w8 W).cell' hcz (fun h => h), bsp_intro (fun hne => ?_) (fun _ => ?_)⟩⟩
    · simp at hne
    · refine nn_is hq ⟨⟨by omega, by omega⟩, fun W9 hW9 => ⟨cell_wr (hcy W9 (hW9.kk rfl)) (by omega), fun w10 hp => ?_⟩⟩
      have k9 : K0 w8 W9 := hW9.kk rfl
      have hg9 := hcy W9 k9
      have hk10 : Kp (fun k => (Value.slice qy Y.hops.length dy).ownBlock = some k) W7 w10 := by
        refine (hk8.trans (k9.mono fun _ _ h => h.elim)).trans (hp.kp.mono fun k _ e => ?_)
        rw [hq]; subst e; rfl
      refine ⟨.of_kp hp.kp (fun y hy => ?_), ⟨i + 1, by rw [inc64 (by omega)], hlt, hk10, fun _ => ⟨g, _, hq, hp.block hg9, ?_, fun j z' hj hz' => ?_⟩⟩, by rw [inc64 (by omega)]; simp only [Int.toNat_natCast]; omega⟩
      · simp only [List.mem_cons, List.not_mem_nil, or_false] at hy
        rcases hy with rfl | rfl | rfl | rfl
        · exact fun e => blk_ne (hW9.cells 0 rfl) hg9 rfl e
        · exact fun e => blk_ne (hW9.cells 1 rfl) hg9 rfl e
        · exact fun e => blk_ne (hW9.cells 2 rfl) hg9 rfl e
        · exact fun e => blk_ne (hW9.cells 3 rfl) hg9 rfl e
      · show Y.hops.length ≤ (cur.toList.set (0 + i) _).length
        rw [List.length_set]; simpa using hsz
      · show (cur.toList.set (0 + i) _).toArray[j]? = _
        rw [List.getElem?_toArray, List.getElem?_set_ne (by omega), Array.getElem?_toList]
        exact hcur j z' (by omega) hz'
  · have hend : E = 0 → i = Y.hops.length := fun h0 => by simp [h0] at hge; omega
    intro W9 hW9
    have c8 := hL8.cells 0 rfl
    have c5 := hL8.cells 1 rfl
    have c3 := hL8.cells 2 rfl
    have c1 := hL8.cells 3 rfl
    have hb8 := hW9.cells 0 rfl
    have hb5 := hW9.cells 1 rfl
    have hb3 := hW9.cells 2 rfl
    have hb1 := hW9.cells 3 rfl
    have g5 : w.heap.size ≤ n5 := Nat.le_trans (k02.trans k3).size (hW4.fresh 0 rfl rfl)
    have k09 : K0 w W9 := hW9.k0 k08
    have hx9 : StrP W9 q1 x.hops := by
      have ho8 : w8.ownsRow W.heap.size 9 1 (.slice q1 x.hops.length d1) x.hops.length (x.hops.map .string) := owns_kp ho17 hk8 (fun k h1 h2 => by
        have g1 := own_lt ho1 h1
        have := (hgy k h2).1; have := k2.size; omega)
      exact strP_own (own_loc ho8 hW9 (fun b hb => by
        simp only [List.mem_cons, List.not_mem_nil, or_false] at hb
        rcases hb with rfl | rfl | rfl | rfl
        · exact own_not ho8 c8 rfl
        · exact own_not ho8 c5 rfl
        · exact own_not ho8 c3 rfl
        · exact own_not ho8 c1 rfl))
    refine ⟨fun wx => K0 W9 wx, .refl _ _, ⟨(known_any W9 (hT.k0 k09)).mono fun e w10 ⟨he, k10⟩ => ⟨_, he, k10, ?_⟩⟩⟩
    refine ⟨_, _, _, _, _, _, _, _, _, _, _, gimp_intro fun _ wx k => AtL_block (k.blk hb5 (fun h => h)) rfl, _, _, _, _, _, _, _, _, _, _, _, gimp_intro fun _ wx k => AtL_block (k.blk hb8 (fun h => h)) rfl, bsp_intro (fun _ => ?_) (fun h => by simp at h)⟩
    refine ⟨(of_any (nohop Y) none 0 w10 (strP_nil _ _) (by show 0 ≤ _; omega)).mono fun e w11 ⟨⟨q3, d3, he, ho3⟩, k11⟩ => ⟨_, _, _, _, _, _, _, _, _, _, _, he, k10.trans k11, ?_⟩⟩
    refine ⟨(xsame_any (nohop Y) (nohop Y) q3 d3 none 0 w11 (strP_own ho3) (strP_nil _ _) (by show 0 ≤ _; omega) b2 b2).mono fun e w12 ⟨he, k12⟩ => ⟨_, he, (k10.trans k11).trans k12, ?_⟩⟩
    rw [eqM_self]
    refine ⟨_, _, _, _, _, _, _, _, _, _, _, gimp_intro fun _ wx k => AtL_block (k.blk hb3 (fun h => h)) rfl, _, _, _, _, _, _, _, _, _, _, _, gimp_intro fun _ wx k => AtL_block (k.blk hb1 (fun h => h)) rfl, bsp_intro (fun _ => ?_) (fun h => by cases h)⟩
    have k912 := (k10.trans k11).trans k12
    refine ⟨(of_any x q1 d1 w12 (hx9.k0 k912) (by omega)).mono fun e w13 ⟨⟨q4, d4, he, ho4⟩, k13⟩ => ⟨_, _, _, _, _, _, _, _, _, _, _, he, k912.trans k13, ?_⟩⟩
    refine ⟨(to_any m p c w13 (hR.k0 (k09.trans (k912.trans k13))) hhl).mono fun e w14 ⟨⟨q5, d5, he, ho5⟩, k14⟩ => ⟨_, _, _, _, _, _, _, _, _, _, _, he, ?_⟩⟩
    refine ⟨(of_any (toM m) q5 d5 w14 (strP_own ho5) (by rw [hx]; omega)).mono fun e w15 ⟨⟨q6, d6, he, ho6⟩, k15⟩ => ⟨_, _, _, _, _, _, _, _, _, _, _, he, ?_⟩⟩
    refine ⟨(xsame_any x (toM m) q4 d4 q6 d6 w15 ((strP_own ho4).k0 (k14.trans k15)) (strP_own ho6) (by omega) hzx (by rw [hx]; exact hzx)).mono fun e w16 ⟨he, k16⟩ => ⟨_, he, .of_k0 ((k912.trans k13).trans ((k14.trans k15).trans k16)), ?_, k09.trans ((k912.trans k13).trans ((k14.trans k15).trans k16))⟩⟩
    rw [hx, eqM_self]; rfl

end Go.Proofs.YtmlmdljnfokebaaDoor

/- Chapter 49: MailLoops on worlds. No condition but the sizes that a reading gives, and the table of powers of ten. -/
namespace Go.Proofs.YtmlmdljnfokebaaDoor
open Go.RowKit Go.Maps

theorem hopsE_add {s : ByteArray} (hs : siteE s = 0) : ∀ (l seen : List ByteArray), hopsE seen l = 0 → s ∉ seen → s ∉ l → hopsE seen (l ++ [s]) = 0
  | [], seen, _, h1, _ => by
    show hopsE seen [s] = 0
    unfold hopsE
    rw [if_neg (by rw [hs]; decide), if_neg (fun h => h1 ((Lib.containsS_iff _ _).1 h))]
    rfl
  | x :: r, seen, h, h1, h2 => by
    unfold hopsE at h
    show hopsE seen (x :: (r ++ [s])) = 0
    unfold hopsE
    split at h
    · rename_i a; exact absurd h a
    rename_i a1
    split at h
    · cases h
    rename_i a2
    rw [if_neg a1, if_neg a2]
    refine hopsE_add hs r (seen ++ [x]) h (fun hm => ?_) (fun hm => h2 (List.mem_cons_of_mem _ hm))
    rcases List.mem_append.1 hm with hm | hm
    · exact h1 hm
    · simp at hm; exact h2 (by rw [hm]; exact List.mem_cons_self)
theorem chk_add {m : Ml} {s : ByteArray} (h : chkM m = 0) (hs : siteE s = 0) (hn : s ∉ m.hops) (hl : m.hops.length < 16) : chkM ⟨m.fu, m.fs, m.tu, m.ts, m.n, m.d, m.sj, m.hops ++ [s], m.bd⟩ = 0 := by
  unfold chkM at *
  split at h
  · rename_i a; exact absurd h a
  rename_i a1
  split at h
  · rename_i a; exact absurd h a
  rename_i a2
  split at h
  · cases h
  rename_i a3
  split at h
  · rename_i a; exact absurd h a
  rename_i a4
  split at h
  · cases h
  rename_i a5
  have e1 : envE ⟨m.fu, m.fs, m.tu, m.ts, m.n, m.d, m.sj, m.hops ++ [s], m.bd⟩ = envE m := rfl
  have a4 : hopsE [] m.hops = 0 := Classical.byContradiction a4
  rw [e1, if_neg a1, if_neg a2, if_neg (by show ¬ 16 < (m.hops ++ [s]).length; simp; omega), if_neg (by show ¬ hopsE [] (m.hops ++ [s]) ≠ 0; rw [hopsE_add hs m.hops [] a4 (by simp) hn]; decide), if_neg a5]
/-- The map of the sites that have passed a message on. -/
def pl (l : List ByteArray) : List (ByteArray × Value) := l.map fun h => (h, .bool true)
theorem pl_get (l : List ByteArray) (s : ByteArray) (h : s ∉ l) : aget (pl l) s = none := aget_none.2 fun p hp e => by
  obtain ⟨x, hx, rfl⟩ := List.mem_map.1 hp
  exact h (by rw [← e]; exact hx)
theorem pl_set (l : List ByteArray) (s : ByteArray) (h : s ∉ l) : aset (pl l) s (.bool true) = pl (l ++ [s]) := by
  rw [aset_new (aget_none.1 (pl_get l s h))]
  simp [pl]
theorem encStr (x y : ByteArray) (h : Value.string x = Value.string y) : x = y := by cases h; rfl
theorem keyStr {s : ByteArray} (h : s.size ≤ 30) : ∃ kl, keyOf Tryd.prog 9 (.string s) = some kl := ⟨_, WideMaps.keyOf_string_mk Tryd.underlying9 (by unfold maxLen; omega)⟩
theorem zeroB (w : World) : (zeroValue 4).run Tryd.prog w = .ok (.bool false) w := by kernel_rfl
abbrev mcs (X : Ml) (q : Option Addr) (d : Nat) : Array Value := #[.string X.fu, .string X.fs, .string X.tu, .string X.ts, .int .i64 X.n, .int .i64 X.d, .string X.sj, .slice q X.hops.length d, .string X.bd]
/-- What stands while the sites pass the message on: X is the message, in block n3; block n4 is the map. -/
structure LI (w : World) (n3 n4 B : Nat) (X : Ml) (q : Option Addr) (d : Nat) (w' : World) : Prop where
  blk : w'.heap[n3]? = some (.cells (mcs X q d) 29 (0, 0))
  row : w'.ownsRow B 9 1 (.slice q X.hops.length d) X.hops.length (X.hops.map .string)
  ok : chkM X = 0
  map : MapB Tryd.prog 9 Value.string w' n4 (pl X.hops)
  k : K0 w w'
theorem LI.k0 {w : World} {n3 n4 B : Nat} {X : Ml} {q : Option Addr} {d : Nat} {w' w2 : World} (h : LI w n3 n4 B X q d w') (hk : K0 w' w2) : LI w n3 n4 B X q d w2 :=
  ⟨hk.blk h.blk (fun h => h), owns_kp h.row hk (fun _ _ h => h), h.ok, h.map.kp hk (fun h => h), h.k.trans hk⟩
theorem map_ne {P : Program} {k t : TypeId} {w : World} {b n : Nat} {l : List (ByteArray × Value)} {c : Array Value} {f : Nat × Nat} (h : MapB P k Value.string w b l) (hn : w.heap[n]? = some (.cells c t f)) : n ≠ b := fun e => by
  obtain ⟨es, cl, hb, _⟩ := h.blk
  rw [← e, hn] at hb
  cases hb
theorem own_map {P : Program} {k : TypeId} {w : World} {b : Nat} {l : List (ByteArray × Value)} (h : MapB P k Value.string w b l) {base : Nat} {e : TypeId} {size : Nat} {v : Value} {n : Nat} {xs : List Value} (ho : w.ownsRow base e size v n xs) : ¬ v.ownBlock = some b := fun he => by
  obtain ⟨c', h1⟩ := own_type ho he
  obtain ⟨es, cl, hb, _⟩ := h.blk
  rw [h1] at hb
  cases hb
set_option maxHeartbeats 1000000 in
theorem lloops_any (m : Ml) (p : Option Addr) (c : Nat) (l : List ByteArray) (pp : Option Addr) (cc : Nat) (w : World) (hR : StrP w p m.hops) (hhl : m.hops.length ≤ 4611686018427387904) (hS : StrP w pp l) (hl : l.length ≤ 4611686018427387904) (hT : GT w) :
    Calls Tryd.prog 6 #[mxA m p c, .slice pp l.length cc] w fun e w' => e = .returned (.bool true) ∧ K0 w w' := by
  refine vc_lloops m.fu m.fs m.tu m.ts m.n m.d m.sj p m.hops.length c m.bd pp l.length cc w _ (fun n1 W hW => ?_)
  have kW : K0 w W := hW.kk rfl
  refine ⟨(to_any m p c W (hR.k0 kW) hhl).mono fun e w1 ⟨⟨q1, d1, he, ho1⟩, k1⟩ => ⟨_, _, _, _, _, _, _, _, _, _, _, he, .of_k0 k1, fun n3 W2 hW2 => ?_⟩⟩
  have hbx : (nohop (toM m)).bd.size ≤ 33000 := by show (m.bd.extract 0 (min m.bd.size 33000)).size ≤ 33000; rw [ByteArray.size_extract]; omega
  have k2 : K0 w1 W2 := hW2.kk rfl
  have k02 := (kW.trans k1).trans k2
  refine ⟨(known_any W2 (hT.k0 k02)).mono fun e w3 ⟨he, k3⟩ => ⟨_, he, .of_k0 k3, bsp_intro (fun _ => ?_) (fun h => by cases h)⟩⟩
  have k03 := k02.trans k3
  have hmc := fun w => mcheck_any (nohop (toM m)) none 0 w (strP_nil _ _) (Nat.le_refl _) (by omega) (by show 0 ≤ _; omega)
  have hb3 := hW2.cells 0 rfl
  have g3 : w.heap.size ≤ n3 := Nat.le_trans (kW.trans k1).size (hW2.fresh 0 rfl rfl)
  refine ⟨(hmc w3).mono fun e w4 ⟨he, k4⟩ => ⟨_, he, .of_k0 k4, bsp_intro (fun h => ?_) (fun h => ?_)⟩⟩
  · refine ⟨(known_any w4 (hT.k0 (k03.trans k4))).mono fun e w5 ⟨he, k5⟩ => ⟨_, he, .of_k0 k5, rfl, (k03.trans k4).trans k5⟩⟩
  have h0 : chkM (nohop (toM m)) = 0 := by simpa using h
  have k04 := k03.trans k4
  intro n4 w5 hn5
  have k5 : K0 w4 w5 := hn5.kp _
  have k05 := k04.trans k5
  have g4 : w.heap.size ≤ n4 := Nat.le_trans k04.size hn5.ge
  refine ⟨.of_k0 k5, ?_⟩
  refine ⟨fun vs w' => ∃ (i : Nat) (X : Ml) (q : Option Addr) (d : Nat), vs = [.int .i64 (i : Int)] ∧ i ≤ l.length ∧ LI w n3 n4 w.heap.size X q d w',
    fun vs _ => (match vs with | .int _ x :: _ => l.length - x.toNat | _ => 0), ⟨0, nohop (toM m), none, 0, rfl, by omega, (k3.trans (k4.trans k5)).blk hb3 (fun h => h), World.ownsRow_nil _ _ _ _, h0, hn5.map, k05⟩, ?_⟩
  rintro v w6 ⟨i, X, q, d, hv, hi, hL⟩ hL6
  simp only [List.cons.injEq, Value.int.injEq, true_and, and_true] at hv
  subst hv
  refine bsp_intro (fun hlt => ?_) (fun _ => ⟨rfl, hL.k⟩)
  have hlt : i < l.length ∧ i < 60 := by simp at hlt; omega
  intro W7 hW7
  have k7 : K0 w6 W7 := hW7.kk rfl
  have hL7 := hL.k0 k7
  have hb1 := hW7.cells 0 rfl
  obtain ⟨z, bz, oz, hzi, hpz, hcz⟩ := str_get (hS.k0 hL7.k) hlt.1
  obtain ⟨z1, z2, z3, z4, z5, z6, z7, z8, z9, z10, z11, z12⟩ := chkM_bd hL.ok
  have hmp := fun (wx : World) (k : K0 W7 wx) => mpass_any X q d z wx (strP_own (owns_kp hL7.row k (fun _ _ h => h))) (own_le hL7.row) (by omega) (by omega)
  have hb31 : n3 ≠ n4 := map_ne hL7.map hL7.blk
  refine ⟨fun wx => K0 W7 wx, .refl _ _, X.fu, X.fs, X.tu, X.ts, X.n, X.d, X.sj, q, X.hops.length, d, X.bd, fun wx k => AtL_block (k.blk hL7.blk (fun h => h)) rfl, nn_is hpz ⟨⟨by omega, by omega⟩, z, fun wx k => by rw [Int.toNat_natCast]; exact k.cell' hcz (fun h => h), ?_, fun n5 w8 hn8 => ⟨hn8.kp _, ?_⟩⟩⟩
  · refine ⟨(hmp W7 (.refl _ _)).mono fun e w8 ⟨⟨qy, dy, he, hoy⟩, k8⟩ => ⟨_, _, _, _, _, _, _, _, _, _, _, _, he, fun n5 w9 hn9 => ⟨k8.trans (hn9.kp _), WrL_block hn9.block (Nat.le_refl 9), fun w10 hp => ?_⟩⟩⟩
    have kA : K0 W7 w9 := k8.trans (hn9.kp _)
    have gn : W7.heap.size ≤ n5 := Nat.le_trans k8.size hn9.ge
    have hb5 := hp.full hn9.block rfl
    have ho9 := owns_kp hoy (hn9.kp (fun _ => False)) (fun _ _ h => h)
    have ho := owns_kp ho9 hp.kp (fun k hk e => own_not ho9 hn9.block rfl (by rw [hk, e]))
    clear hn9 ho9 hoy he
    have k10 := put_k0 kA hp gn
    clear hp kA
    first | clear k8 | skip
    have hX10 := hL7.k0 k10
    have hmes : l.length - ((i : Int) + 1).toNat < l.length - ((i : Int)).toNat := by omega
    refine ⟨.of_k0 k10, bsp_intro (fun hE => ⟨⟨i + 1, X, q, d, by rw [inc64 (by omega)], hlt.1, hX10⟩, by rw [inc64 (by omega)]; simp only [Int.toNat_natCast]; omega⟩) (fun hE => ?_)⟩
    obtain ⟨_, hs, hni, h16, hY⟩ := pass_yes (m := X) (s := z) (by simpa using hE)
    have hcY := chk_add hL.ok hs hni h16
    rw [hY] at ho hb5
    generalize hYd : (⟨X.fu, X.fs, X.tu, X.ts, X.n, X.d, X.sj, X.hops ++ [z], X.bd⟩ : Ml) = Y at *
    have hYh : Y.hops = X.hops ++ [z] := by rw [← hYd]
    have hYl : Y.hops.length = X.hops.length + 1 := by rw [hYh]; simp
    have hbY : w10.heap[n5]? = some (.cells (mcs Y qy dy) 29 (0, 0)) := hb5
    rw [Int.toNat_natCast]
    refine nn_is hpz ⟨⟨by omega, by omega⟩, z, k10.cell' hcz (fun h => h), false, ?_, qy, Y.hops.length, dy, gimp_intro fun _ => cell_at hbY rfl, q, X.hops.length, d, gimp_intro fun _ => cell_at hX10.blk rfl, qy, Y.hops.length, dy, gimp_intro fun _ => cell_at hbY rfl, _, _, _, _, _, _, _, _, _, _, _, gimp_intro fun _ => AtL_block hbY rfl, bsp_intro (fun _ => ?_) (fun h => ?_)⟩
    · have h1 := MapB.look encStr hX10.map (string_keyed Tryd.underlying9) Tryd.underlying48 (zeroB w10) (keyStr (siteE_bd hs)).choose_spec false
      rw [pl_get _ _ hni] at h1
      exact h1
    · refine ⟨(mcheck_any Y qy dy w10 (strP_own ho) (own_le ho) (by rw [← hYd]; show X.bd.size ≤ _; omega) (by omega)).mono fun e w11 ⟨he, k11⟩ => ⟨_, he, .of_k0 k11, bsp_intro (fun h => ?_) (fun _ => ?_)⟩⟩
      · rw [hcY] at h; simp at h
      · have hX11 := hX10.k0 k11
        obtain ⟨w12, hu, hm12, hk12⟩ := MapB.upd encStr hX11.map (string_keyed Tryd.underlying9) Tryd.underlying48 (keyStr (siteE_bd hs)).choose_spec (.bool true)
        rw [pl_set _ _ hni, ← hYh] at hm12
        have hbY11 := k11.blk hbY (fun h => h)
        have ho11 := owns_kp ho k11 (fun _ _ h => h)
        have hbY12 := hk12.blk hbY11 (map_ne hX11.map hbY11)
        have hbX12 := hk12.blk hX11.blk hb31
        have ho12 := owns_kp ho11 hk12 (fun k hk e => own_map hX11.map ho11 (by rw [hk, e]))
        refine nn_is hpz ⟨⟨by omega, by omega⟩, z, (k10.trans k11).cell' hcz (fun h => h), w12, hu, .of_kp hk12 (fun y hy e => ?_), _, _, _, _, _, _, _, _, _, _, _, AtL_block hbY12 rfl, WrL_block hbX12 (Nat.le_refl 9), fun w13 hp13 => ⟨.of_kp hp13.kp (fun y hy e => ?_), ⟨i + 1, Y, qy, dy, by rw [inc64 (by omega)], hlt.1, hp13.full hbX12 rfl, own_base (owns_kp ho12 hp13.kp (fun k hk e => own_not ho12 hbX12 rfl (by rw [hk, e]))) hL7.k.size, hcY, hm12.kp hp13.kp (fun e => hb31 e.symm), put_k0 (hX11.k.fresh hk12 (fun j hj e => by omega)) hp13 g3⟩, by rw [inc64 (by omega)]; simp only [Int.toNat_natCast]; omega⟩⟩
        · obtain rfl : y = n1 := by simpa using hy
          exact map_ne hL7.map hb1 e
        · obtain rfl : y = n1 := by simpa using hy
          exact blk_ne hb1 hL7.blk rfl e
    · have e1 : IntKind.i64.wrap ((X.hops.length : Int) + 1) = (Y.hops.length : Int) := by rw [inc64 (by omega), hYl]
      rw [e1] at h
      simp at h
      omega
  · refine ⟨(hmp w8 (hn8.kp _)).mono fun e w9 ⟨⟨qy, dy, he, hoy⟩, k9⟩ => ⟨_, _, _, _, _, _, _, _, _, _, _, _, he, WrL_block (k9.blk hn8.block (fun h => h)) (Nat.le_refl 9), fun w10 hp => ?_⟩⟩
    have kA : K0 W7 w9 := (hn8.kp _).trans k9
    have gn : W7.heap.size ≤ n5 := hn8.ge
    have hb5 := hp.full (k9.blk hn8.block (fun h => h)) rfl
    have ho9 := own_base hoy (hn8.kp (fun _ => False)).size
    have ho := owns_kp ho9 hp.kp (fun k hk e => own_not ho9 (k9.blk hn8.block (fun h => h)) rfl (by rw [hk, e]))
    clear ho9 hoy he k9 hn8
    have k10 := put_k0 kA hp gn
    clear hp kA
    first | clear k8 | skip
    have hX10 := hL7.k0 k10
    have hmes : l.length - ((i : Int) + 1).toNat < l.length - ((i : Int)).toNat := by omega
    refine ⟨.of_k0 k10, bsp_intro (fun hE => ⟨⟨i + 1, X, q, d, by rw [inc64 (by omega)], hlt.1, hX10⟩, by rw [inc64 (by omega)]; simp only [Int.toNat_natCast]; omega⟩) (fun hE => ?_)⟩
    obtain ⟨_, hs, hni, h16, hY⟩ := pass_yes (m := X) (s := z) (by simpa using hE)
    have hcY := chk_add hL.ok hs hni h16
    rw [hY] at ho hb5
    generalize hYd : (⟨X.fu, X.fs, X.tu, X.ts, X.n, X.d, X.sj, X.hops ++ [z], X.bd⟩ : Ml) = Y at *
    have hYh : Y.hops = X.hops ++ [z] := by rw [← hYd]
    have hYl : Y.hops.length = X.hops.length + 1 := by rw [hYh]; simp
    have hbY : w10.heap[n5]? = some (.cells (mcs Y qy dy) 29 (0, 0)) := hb5
    rw [Int.toNat_natCast]
    refine nn_is hpz ⟨⟨by omega, by omega⟩, z, k10.cell' hcz (fun h => h), false, ?_, qy, Y.hops.length, dy, gimp_intro fun _ => cell_at hbY rfl, q, X.hops.length, d, gimp_intro fun _ => cell_at hX10.blk rfl, qy, Y.hops.length, dy, gimp_intro fun _ => cell_at hbY rfl, _, _, _, _, _, _, _, _, _, _, _, gimp_intro fun _ => AtL_block hbY rfl, bsp_intro (fun _ => ?_) (fun h => ?_)⟩
    · have h1 := MapB.look encStr hX10.map (string_keyed Tryd.underlying9) Tryd.underlying48 (zeroB w10) (keyStr (siteE_bd hs)).choose_spec false
      rw [pl_get _ _ hni] at h1
      exact h1
    · refine ⟨(mcheck_any Y qy dy w10 (strP_own ho) (own_le ho) (by rw [← hYd]; show X.bd.size ≤ _; omega) (by omega)).mono fun e w11 ⟨he, k11⟩ => ⟨_, he, .of_k0 k11, bsp_intro (fun h => ?_) (fun _ => ?_)⟩⟩
      · rw [hcY] at h; simp at h
      · have hX11 := hX10.k0 k11
        obtain ⟨w12, hu, hm12, hk12⟩ := MapB.upd encStr hX11.map (string_keyed Tryd.underlying9) Tryd.underlying48 (keyStr (siteE_bd hs)).choose_spec (.bool true)
        rw [pl_set _ _ hni, ← hYh] at hm12
        have hbY11 := k11.blk hbY (fun h => h)
        have ho11 := owns_kp ho k11 (fun _ _ h => h)
        have hbY12 := hk12.blk hbY11 (map_ne hX11.map hbY11)
        have hbX12 := hk12.blk hX11.blk hb31
        have ho12 := owns_kp ho11 hk12 (fun k hk e => own_map hX11.map ho11 (by rw [hk, e]))
        refine nn_is hpz ⟨⟨by omega, by omega⟩, z, (k10.trans k11).cell' hcz (fun h => h), w12, hu, .of_kp hk12 (fun y hy e => ?_), _, _, _, _, _, _, _, _, _, _, _, AtL_block hbY12 rfl, WrL_block hbX12 (Nat.le_refl 9), fun w13 hp13 => ⟨.of_kp hp13.kp (fun y hy e => ?_), ⟨i + 1, Y, qy, dy, by rw [inc64 (by omega)], hlt.1, hp13.full hbX12 rfl, own_base (owns_kp ho12 hp13.kp (fun k hk e => own_not ho12 hbX12 rfl (by rw [hk, e]))) hL7.k.size, hcY, hm12.kp hp13.kp (fun e => hb31 e.symm), put_k0 (hX11.k.fresh hk12 (fun j hj e => by omega)) hp13 g3⟩, by rw [inc64 (by omega)]; simp only [Int.toNat_natCast]; omega⟩⟩
        · obtain rfl : y = n1 := by simpa using hy
          exact map_ne hL7.map hb1 e
        · obtain rfl : y = n1 := by simpa using hy
          exact blk_ne hb1 hL7.blk rfl e
    · have e1 : IntKind.i64.wrap ((X.hops.length : Int) + 1) = (Y.hops.length : Int) := by rw [inc64 (by omega), hYl]
      rw [e1] at h
      simp at h
      omega

end Go.Proofs.YtmlmdljnfokebaaDoor
