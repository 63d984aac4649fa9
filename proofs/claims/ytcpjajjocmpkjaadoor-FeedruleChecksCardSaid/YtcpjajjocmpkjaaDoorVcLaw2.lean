/- The formulas of functions by the symbolic evaluator, and that each gives the call's contract. Written by a program (gen.py). No condition. -/
import Derived.Test.YtcpjajjocmpkjaaDoorProg
import Derived.Test.YtcpjajjocmpkjaaDoorSound
import Derived.Test.YtcpjajjocmpkjaaDoorPur1
import Derived.KernelRfl
namespace Go.Proofs.YtcpjajjocmpkjaaDoor
set_option maxRecDepth 100000
set_option linter.unusedVariables false

def VC_qclone (q : Option Addr) (w : World) (R : Ending → World → Prop) : Prop :=
 bsp q.isNone (R (Ending.returned (Value.pointer none)) w)
 (nn true q fun (b o : Nat) =>
 ∃ (x : Int),
 ∃ (x_1 : Bool),
 ∃ (x_2 : Int),
 ∃ (x_3 : Int),
 AtL w b o [Value.int IntKind.i64 x, Value.bool x_1, Value.int IntKind.i64 x_2, Value.int IntKind.i64 x_3] ∧
 ∀ (n : Nat) (w1 : World),
 NewB w
 (Obj.cells #[Value.int IntKind.i64 0, Value.bool false, Value.int IntKind.i64 0, Value.int IntKind.i64 0] 93)
 n w1 →
 WrL w1 n 0 4 ∧
 ∀ (w1_1 : World),
 PutB w1 n 0 [Value.int IntKind.i64 x, Value.bool x_1, Value.int IntKind.i64 x_2, Value.int IntKind.i64 x_3]
 w1_1 →
 R (Ending.returned (Value.pointer (some (Addr.mk n 0 none)))) w1_1)
theorem vc_qclone (q : Option Addr) (w : World) (R : Ending → World → Prop) (h : VC_qclone q w R) : Calls Tryd.prog 28 ([Value.pointer
    q] : List Value).toArray w R := by
  have e : execR { P := Tryd.prog, loops := [], pur := pur1, tails := [], joins := [], boxes := [] } Tryd.f28.results.toList R (Tryd.f28.body.getD .skip) (initF [Value.pointer
    q] (Tryd.f28.ntmps - ([Value.pointer q] : List Value).length)) w = VC_qclone q w R := by kernel_rfl
  have hb : Tryd.f28.body = some (Tryd.f28.body.getD .skip) := by kernel_rfl
  exact calls_of_exec' (P := Tryd.prog) (fn := Tryd.f28) (c := Tryd.f28.body.getD .skip) (args := [Value.pointer
    q]) (w := w) (R := R) pur1_ok Tryd.func28 hb e h

def VC_takeNil (n : Int) (now : Int) (w : World) (R : Ending → World → Prop) : Prop :=
 R (Ending.returned (Value.int IntKind.i64 1)) w
theorem vc_takeNil (n : Int) (now : Int) (w : World) (R : Ending → World → Prop) (h : VC_takeNil n now w R) : Calls Tryd.prog 21 ([Value.pointer
    none,
  Value.int IntKind.i64 n, Value.int IntKind.i64 now] : List Value).toArray w R := by
  have e : execR { P := Tryd.prog, loops := [], pur := pur1, tails := [], joins := [], boxes := [] } Tryd.f21.results.toList R (Tryd.f21.body.getD .skip) (initF [Value.pointer
    none,
  Value.int IntKind.i64 n,
  Value.int IntKind.i64
    now] (Tryd.f21.ntmps - ([Value.pointer none, Value.int IntKind.i64 n,
  Value.int IntKind.i64 now] : List Value).length)) w = VC_takeNil n now w R := by kernel_rfl
  have hb : Tryd.f21.body = some (Tryd.f21.body.getD .skip) := by kernel_rfl
  exact calls_of_exec' (P := Tryd.prog) (fn := Tryd.f21) (c := Tryd.f21.body.getD .skip) (args := [Value.pointer none,
  Value.int IntKind.i64 n, Value.int IntKind.i64 now]) (w := w) (R := R) pur1_ok Tryd.func21 hb e h

def VC_leftNil (now : Int) (w : World) (R : Ending → World → Prop) : Prop :=
 R (Ending.returned (Value.int IntKind.i64 0)) w
theorem vc_leftNil (now : Int) (w : World) (R : Ending → World → Prop) (h : VC_leftNil now w R) : Calls Tryd.prog 22 ([Value.pointer
    none,
  Value.int IntKind.i64 now] : List Value).toArray w R := by
  have e : execR { P := Tryd.prog, loops := [], pur := pur1, tails := [], joins := [], boxes := [] } Tryd.f22.results.toList R (Tryd.f22.body.getD .skip) (initF [Value.pointer
    none,
  Value.int IntKind.i64
    now] (Tryd.f22.ntmps - ([Value.pointer none,
  Value.int IntKind.i64 now] : List Value).length)) w = VC_leftNil now w R := by kernel_rfl
  have hb : Tryd.f22.body = some (Tryd.f22.body.getD .skip) := by kernel_rfl
  exact calls_of_exec' (P := Tryd.prog) (fn := Tryd.f22) (c := Tryd.f22.body.getD .skip) (args := [Value.pointer none,
  Value.int IntKind.i64 now]) (w := w) (R := R) pur1_ok Tryd.func22 hb e h

def VC_checks (nb : ByteArray) (ps : ByteArray) (mb : Int) (dl : Int) (p : Option Addr) (n : Nat) (c : Nat) (w : World) (R : Ending → World → Prop) : Prop :=
 ∀ (n_1 : Nat) (w1 : World),
 NewB w
 (Obj.cells #[Value.string nb, Value.string ps, Value.int IntKind.i64 mb, Value.int IntKind.i64 dl, Value.slice p n c]
 24)
 n_1 w1 →
 ∃ (x : ByteArray),
 ∃ (x_1 : ByteArray),
 ∃ (x_2 : Int),
 ∃ (x_3 : Int),
 ∃ (p : Option Addr),
 ∃ (n : Nat),
 ∃ (c : Nat),
 AtL w1 n_1 0
 [Value.string x, Value.string x_1, Value.int IntKind.i64 x_2, Value.int IntKind.i64 x_3, Value.slice p n c] ∧
 CallsS Tryd.prog 10
 #[Value.agg
 #[Value.string x, Value.string x_1, Value.int IntKind.i64 x_2, Value.int IntKind.i64 x_3,
 Value.slice p n c]]
 w1 fun (e : Ending) (w' : World) =>
 ∃ (x : ByteArray),
 ∃ (x_4 : ByteArray),
 ∃ (x_5 : Int),
 ∃ (x_6 : Int),
 ∃ (p : Option Addr),
 ∃ (n : Nat),
 ∃ (c : Nat),
 ∃ (x_7 : ByteArray),
 ∃ (x_8 : ByteArray),
 ∃ (x_9 : Int),
 ∃ (x_10 : Int),
 ∃ (p_1 : Option Addr),
 ∃ (n_2 : Nat),
 ∃ (c_1 : Nat),
 e =
 Ending.returned
 (Value.tuple
 #[Value.agg
 #[Value.string x, Value.string x_4, Value.int IntKind.i64 x_5, Value.int IntKind.i64 x_6,
 Value.slice p n c],
 Value.agg
 #[Value.string x_7, Value.string x_8, Value.int IntKind.i64 x_9,
 Value.int IntKind.i64 x_10, Value.slice p_1 n_2 c_1]]) ∧
 ∀ (n_3 : Nat) (w1 : World),
 NewB w'
 (Obj.cells
 #[Value.string (ByteArray.mk #[]), Value.string (ByteArray.mk #[]),
 Value.int IntKind.i64 0, Value.int IntKind.i64 0, Value.slice none 0 0]
 28)
 n_3 w1 →
 ∀ (n_4 : Nat) (w1_1 : World),
 NewB w1
 (Obj.cells
 #[Value.string (ByteArray.mk #[]), Value.string (ByteArray.mk #[]),
 Value.int IntKind.i64 0, Value.int IntKind.i64 0, Value.slice none 0 0]
 24)
 n_4 w1_1 →
 WrL w1_1 n_3 0 5 ∧
 ∀ (w1 : World),
 PutB w1_1 n_3 0
 [Value.string x, Value.string x_4, Value.int IntKind.i64 x_5,
 Value.int IntKind.i64 x_6, Value.slice p n c]
 w1 →
 WrL w1 n_4 0 5 ∧
 ∀ (w1_2 : World),
 PutB w1 n_4 0
 [Value.string x_7, Value.string x_8, Value.int IntKind.i64 x_9,
 Value.int IntKind.i64 x_10, Value.slice p_1 n_2 c_1]
 w1_2 →
 ∃ (x : ByteArray),
 ∃ (x_11 : ByteArray),
 ∃ (x_12 : Int),
 ∃ (x_13 : Int),
 ∃ (p : Option Addr),
 ∃ (n : Nat),
 ∃ (c : Nat),
 AtL w1_2 n_4 0
 [Value.string x, Value.string x_11, Value.int IntKind.i64 x_12,
 Value.int IntKind.i64 x_13, Value.slice p n c] ∧
 CallsS Tryd.prog 13
 #[Value.agg
 #[Value.string x, Value.string x_11, Value.int IntKind.i64 x_12,
 Value.int IntKind.i64 x_13, Value.slice p n c]]
 w1_2 fun (e : Ending) (w' : World) =>
 ∃ (x : Int),
 e = Ending.returned (Value.int IntKind.i64 x) ∧
 ∃ (x_14 : ByteArray),
 ∃ (x_15 : ByteArray),
 ∃ (x_16 : Int),
 ∃ (x_17 : Int),
 ∃ (p : Option Addr),
 ∃ (n : Nat),
 ∃ (c : Nat),
 AtL w' n_3 0
 [Value.string x_14, Value.string x_15,
 Value.int IntKind.i64 x_16, Value.int IntKind.i64 x_17,
 Value.slice p n c] ∧
 CallsS Tryd.prog 11
 #[Value.agg
 #[Value.string x_14, Value.string x_15,
 Value.int IntKind.i64 x_16, Value.int IntKind.i64 x_17,
 Value.slice p n c]]
 w' fun (e : Ending) (w' : World) =>
 ∃ (x_18 : Option Addr),
 ∃ (x_19 : Int),
 e =
 Ending.returned
 (Value.tuple
 #[Value.pointer x_18, Value.int IntKind.i64 x_19]) ∧
 ∃ (x_20 : ByteArray),
 ∃ (x_21 : ByteArray),
 ∃ (x_22 : Int),
 ∃ (x_23 : Int),
 ∃ (p : Option Addr),
 ∃ (n : Nat),
 ∃ (c : Nat),
 AtL w' n_3 0
 [Value.string x_20, Value.string x_21,
 Value.int IntKind.i64 x_22,
 Value.int IntKind.i64 x_23, Value.slice p n c] ∧
 CallsS Tryd.prog 24
 #[Value.agg
 #[Value.string x_20, Value.string x_21,
 Value.int IntKind.i64 x_22,
 Value.int IntKind.i64 x_23, Value.slice p n c]]
 w' fun (e : Ending) (w' : World) =>
 ∃ (x_24 : Int),
 e = Ending.returned (Value.int IntKind.i64 x_24) ∧
 bsp
 (x_24 != x || x_19 != x ||
 !x_18.isNone == (x != 0))
 (R (Ending.returned (Value.bool false)) w')
 (bsp x_18.isNone
 (CallsS Tryd.prog 12 #[] w'
 fun (e : Ending) (w' : World) =>
 ∃ (x : Bool),
 e = Ending.returned (Value.bool x) ∧
 R (Ending.returned (Value.bool x)) w')
 (CallsS Tryd.prog 25 #[Value.pointer x_18] w'
 fun (e : Ending) (w' : World) =>
 ∃ (x : ByteArray),
 ∃ (x_25 : ByteArray),
 ∃ (x_26 : Int),
 ∃ (x_27 : Int),
 ∃ (p : Option Addr),
 ∃ (n : Nat),
 ∃ (c : Nat),
 e =
 Ending.returned
 (Value.agg
 #[Value.string x, Value.string x_25,
 Value.int IntKind.i64 x_26,
 Value.int IntKind.i64 x_27,
 Value.slice p n c]) ∧
 ∀ (n_5 : Nat) (w1 : World),
 NewB w'
 (Obj.cells
 #[Value.string (ByteArray.mk #[]),
 Value.string (ByteArray.mk #[]),
 Value.int IntKind.i64 0,
 Value.int IntKind.i64 0,
 Value.slice none 0 0]
 28)
 n_5 w1 →
 WrL w1 n_5 0 5 ∧
 ∀ (w1_3 : World),
 PutB w1 n_5 0
 [Value.string x,
 Value.string x_25,
 Value.int IntKind.i64 x_26,
 Value.int IntKind.i64 x_27,
 Value.slice p n c]
 w1_3 →
 ∃ (p : Option Addr),
 ∃ (n : Nat),
 ∃ (c : Nat),
 w1_3.cell?
 (Addr.mk n_5 (0 + 4) none) =
 some (Value.slice p n c) ∧
 ∃ (p : Option Addr),
 ∃ (n_6 : Nat),
 ∃ (c : Nat),
 w1_3.cell?
 (Addr.mk n_4 (0 + 4)
 none) =
 some
 (Value.slice p n_6 c) ∧
 ∃ (x : ByteArray),
 gimp
 (!(↑n : Int) !=
 (↑n_6 : Int))
 (w1_3.cell?
 (Addr.mk n_5 0
 none) =
 some
 (Value.string x)) ∧
 ∃ (x_28 : ByteArray),
 gimp
 (!(↑n : Int) !=
 (↑n_6 : Int))
 (w1_3.cell?
 (Addr.mk n_4 0
 none) =
 some
 (Value.string
 x_28)) ∧
 ∃ (x_29 : ByteArray),
 gimp
 (!((↑n : Int) !=
 (↑n_6 : Int) ||
 !x.toList ==
 x_28.toList))
 (w1_3.cell?
 (Addr.mk n_5
 (0 + 1) none) =
 some
 (Value.string
 x_29)) ∧
 ∃ (x_30 :
 ByteArray),
 gimp
 (!((↑n : Int) !=
 (↑n_6 :
 Int) ||
 !x.toList ==
 x_28.toList))
 (w1_3.cell?
 (Addr.mk n_4
 (0 + 1)
 none) =
 some
 (Value.string
 x_30)) ∧
 ∃ (x_31 : Int),
 gimp
 (!((↑n :
 Int) !=
 (↑n_6 :
 Int) ||
 !x.toList ==
 x_28.toList ||
 !x_29.toList ==
 x_30.toList))
 (w1_3.cell?
 (Addr.mk n_5
 (0 + 2)
 none) =
 some
 (Value.int
 IntKind.i64
 x_31)) ∧
 ∃ (x_32 : Int),
 gimp
 (!((↑n :
 Int) !=
 (↑n_6 :
 Int) ||
 !x.toList ==
 x_28.toList ||
 !x_29.toList ==
 x_30.toList))
 (w1_3.cell?
 (Addr.mk
 n_4
 (0 + 2)
 none) =
 some
 (Value.int
 IntKind.i64
 x_32)) ∧
 ∃ (x_33 :
 Int),
 gimp
 (!((↑n :
 Int) !=
 (↑n_6 :
 Int) ||
 !x.toList ==
 x_28.toList ||
 !x_29.toList ==
 x_30.toList ||
 x_31 !=
 x_32))
 (w1_3.cell?
 (Addr.mk
 n_5
 (0 + 3)
 none) =
 some
 (Value.int
 IntKind.i64
 x_33)) ∧
 ∃ (x_34 :
 Int),
 gimp
 (!((↑n :
 Int) !=
 (↑n_6 :
 Int) ||
 !x.toList ==
 x_28.toList ||
 !x_29.toList ==
 x_30.toList ||
 x_31 !=
 x_32))
 (w1_3.cell?
 (Addr.mk
 n_4
 (0 +
 3)
 none) =
 some
 (Value.int
 IntKind.i64
 x_34)) ∧
 bsp
 ((↑n :
 Int) !=
 (↑n_6 :
 Int) ||
 !x.toList ==
 x_28.toList ||
 !x_29.toList ==
 x_30.toList ||
 x_31 !=
 x_32 ||
 x_33 !=
 x_34)
 (R
 (Ending.returned
 (Value.bool
 false))
 w1_3)
 (∃ (I :
 List
 Value →
 World →
 Prop),
 ∃ (m :
 List
 Value →
 World →
 Nat),
 I
 [Value.int
 IntKind.i64
 0]
 w1_3 ∧
 ∀
 (x :
 Int)
 (w' :
 World),
 I
 [Value.int
 IntKind.i64
 x]
 w' →
 ∃ (p
 :
 Option
 Addr),
 ∃
 (n
 :
 Nat),
 ∃
 (c
 :
 Nat),
 w'.cell?
 (Addr.mk
 n_5
 (0 +
 4)
 none) =
 some
 (Value.slice
 p
 n
 c) ∧
 bsp
 (decide
 (x <
 (↑n :
 Int)))
 (∃
 (p
 :
 Option
 Addr),
 ∃
 (n
 :
 Nat),
 ∃
 (c
 :
 Nat),
 w'.drew.cell?
 (Addr.mk
 n_5
 (0 +
 4)
 none) =
 some
 (Value.slice
 p
 n
 c) ∧
 nn
 true
 p
 fun
 (b
 o :
 Nat) =>
 (0 ≤
 x ∧
 x <
 (↑n :
 Int)) ∧
 ∃
 (x_35
 :
 ByteArray),
 w'.drew.cell?
 (Addr.mk
 b
 (o +
 x.toNat)
 none) =
 some
 (Value.string
 x_35) ∧
 ∃
 (p
 :
 Option
 Addr),
 ∃
 (n
 :
 Nat),
 ∃
 (c
 :
 Nat),
 w'.drew.cell?
 (Addr.mk
 n_4
 (0 +
 4)
 none) =
 some
 (Value.slice
 p
 n
 c) ∧
 nn
 true
 p
 fun
 (b
 o :
 Nat) =>
 (0 ≤
 x ∧
 x <
 (↑n :
 Int)) ∧
 ∃
 (x_36
 :
 ByteArray),
 w'.drew.cell?
 (Addr.mk
 b
 (o +
 x.toNat)
 none) =
 some
 (Value.string
 x_36) ∧
 bsp
 (!x_35.toList ==
 x_36.toList)
 (R
 (Ending.returned
 (Value.bool
 false))
 w'.drew)
 (∃
 (S
 :
 World →
 Prop),
 S
 w'.drew.drew ∧
 ∃
 (p
 :
 Option
 Addr),
 ∃
 (n
 :
 Nat),
 ∃
 (c
 :
 Nat),
 (∀
 (w' :
 World),
 S
 w' →
 w'.cell?
 (Addr.mk
 n_5
 (0 +
 4)
 none) =
 some
 (Value.slice
 p
 n
 c)) ∧
 ∃
 (p_2
 :
 Option
 Addr),
 ∃
 (n_7
 :
 Nat),
 ∃
 (c
 :
 Nat),
 (∀
 (w' :
 World),
 S
 w' →
 w'.cell?
 (Addr.mk
 n_3
 (0 +
 4)
 none) =
 some
 (Value.slice
 p_2
 n_7
 c)) ∧
 nn
 true
 p
 fun
 (b
 o :
 Nat) =>
 (0 ≤
 x ∧
 x <
 (↑n :
 Int)) ∧
 ((∃
 (u
 :
 Value),
 w'.drew.drew.cell?
 (Addr.mk
 b
 (o +
 x.toNat)
 none) =
 some
 u) ∧
 w'.drew.drew.frozen?
 (Addr.mk
 b
 (o +
 x.toNat)
 none) =
 false) ∧
 ∀
 (w1 :
 World),
 PutB
 w'.drew.drew
 b
 (o +
 x.toNat)
 [Value.string
 (ByteArray.mk
 #[99,
 104,
 97,
 110,
 103,
 101,
 100])]
 w1 →
 S
 w1 ∧
 nn
 true
 p_2
 fun
 (b
 o :
 Nat) =>
 (0 ≤
 x ∧
 x <
 (↑n_7 :
 Int)) ∧
 ((∃
 (u
 :
 Value),
 w1.cell?
 (Addr.mk
 b
 (o +
 x.toNat)
 none) =
 some
 u) ∧
 w1.frozen?
 (Addr.mk
 b
 (o +
 x.toNat)
 none) =
 false) ∧
 ∀
 (w1_4 :
 World),
 PutB
 w1
 b
 (o +
 x.toNat)
 [Value.string
 (ByteArray.mk
 #[99,
 104,
 97,
 110,
 103,
 101,
 100])]
 w1_4 →
 I
 [Value.int
 IntKind.i64
 (IntKind.i64.wrap
 (x +
 1))]
 w1_4 ∧
 m
 [Value.int
 IntKind.i64
 (IntKind.i64.wrap
 (x +
 1))]
 w1_4 <
 m
 [Value.int
 IntKind.i64
 x]
 w'))
 (CallsS
 Tryd.prog
 25
 #[Value.pointer
 x_18]
 w'
 fun
 (e :
 Ending)
 (w' :
 World) =>
 ∃
 (x
 :
 ByteArray),
 ∃
 (x_35
 :
 ByteArray),
 ∃
 (x_36
 :
 Int),
 ∃
 (x_37
 :
 Int),
 ∃
 (p
 :
 Option
 Addr),
 ∃
 (n
 :
 Nat),
 ∃
 (c
 :
 Nat),
 e =
 Ending.returned
 (Value.agg
 #[Value.string
 x,
 Value.string
 x_35,
 Value.int
 IntKind.i64
 x_36,
 Value.int
 IntKind.i64
 x_37,
 Value.slice
 p
 n
 c]) ∧
 ∀
 (n_7 :
 Nat)
 (w1 :
 World),
 NewB
 w'
 (Obj.cells
 #[Value.string
 (ByteArray.mk
 #[]),
 Value.string
 (ByteArray.mk
 #[]),
 Value.int
 IntKind.i64
 0,
 Value.int
 IntKind.i64
 0,
 Value.slice
 none
 0
 0]
 28)
 n_7
 w1 →
 WrL
 w1
 n_7
 0
 5 ∧
 ∀
 (w1_4 :
 World),
 PutB
 w1
 n_7
 0
 [Value.string
 x,
 Value.string
 x_35,
 Value.int
 IntKind.i64
 x_36,
 Value.int
 IntKind.i64
 x_37,
 Value.slice
 p
 n
 c]
 w1_4 →
 ∃
 (I
 :
 List
 Value →
 World →
 Prop),
 ∃
 (m
 :
 List
 Value →
 World →
 Nat),
 I
 [Value.int
 IntKind.i64
 0]
 w1_4 ∧
 ∀
 (x :
 Int)
 (w' :
 World),
 I
 [Value.int
 IntKind.i64
 x]
 w' →
 ∃
 (p
 :
 Option
 Addr),
 ∃
 (n
 :
 Nat),
 ∃
 (c
 :
 Nat),
 w'.cell?
 (Addr.mk
 n_7
 (0 +
 4)
 none) =
 some
 (Value.slice
 p
 n
 c) ∧
 bsp
 (decide
 (x <
 (↑n :
 Int)))
 (∃
 (p
 :
 Option
 Addr),
 ∃
 (n
 :
 Nat),
 ∃
 (c
 :
 Nat),
 w'.drew.cell?
 (Addr.mk
 n_7
 (0 +
 4)
 none) =
 some
 (Value.slice
 p
 n
 c) ∧
 nn
 true
 p
 fun
 (b
 o :
 Nat) =>
 (0 ≤
 x ∧
 x <
 (↑n :
 Int)) ∧
 ∃
 (x_38
 :
 ByteArray),
 w'.drew.cell?
 (Addr.mk
 b
 (o +
 x.toNat)
 none) =
 some
 (Value.string
 x_38) ∧
 ∃
 (p
 :
 Option
 Addr),
 ∃
 (n
 :
 Nat),
 ∃
 (c
 :
 Nat),
 w'.drew.cell?
 (Addr.mk
 n_4
 (0 +
 4)
 none) =
 some
 (Value.slice
 p
 n
 c) ∧
 nn
 true
 p
 fun
 (b
 o :
 Nat) =>
 (0 ≤
 x ∧
 x <
 (↑n :
 Int)) ∧
 ∃
 (x_39
 :
 ByteArray),
 w'.drew.cell?
 (Addr.mk
 b
 (o +
 x.toNat)
 none) =
 some
 (Value.string
 x_39) ∧
 bsp
 (!x_38.toList ==
 x_39.toList)
 (R
 (Ending.returned
 (Value.bool
 false))
 w'.drew)
 (I
 [Value.int
 IntKind.i64
 (IntKind.i64.wrap
 (x +
 1))]
 w'.drew ∧
 m
 [Value.int
 IntKind.i64
 (IntKind.i64.wrap
 (x +
 1))]
 w'.drew <
 m
 [Value.int
 IntKind.i64
 x]
 w'))
 (CallsS
 Tryd.prog
 12
 #[]
 w'
 fun
 (e :
 Ending)
 (w' :
 World) =>
 ∃
 (x
 :
 Bool),
 e =
 Ending.returned
 (Value.bool
 x) ∧
 R
 (Ending.returned
 (Value.bool
 x))
 w')))))
theorem vc_checks (nb : ByteArray) (ps : ByteArray) (mb : Int) (dl : Int) (p : Option Addr) (n : Nat) (c : Nat) (w : World) (R : Ending → World → Prop) (h : VC_checks nb ps mb dl p n c w R) : Calls Tryd.prog 7 ([Value.agg
    #[Value.string nb, Value.string ps, Value.int IntKind.i64 mb, Value.int IntKind.i64 dl,
      Value.slice p n c]] : List Value).toArray w R := by
  have e : execR { P := Tryd.prog, loops := [(12, [(9, Ck.int IntKind.i64)]), (19, [(11, Ck.int IntKind.i64)])], pur := pur1, tails := [(16, 7)], joins := [], boxes := [] } Tryd.f7.results.toList R (Tryd.f7.body.getD .skip) (initF [Value.agg
    #[Value.string nb, Value.string ps, Value.int IntKind.i64 mb, Value.int IntKind.i64 dl,
      Value.slice p n
        c]] (Tryd.f7.ntmps - ([Value.agg
    #[Value.string nb, Value.string ps, Value.int IntKind.i64 mb, Value.int IntKind.i64 dl,
      Value.slice p n c]] : List Value).length)) w = VC_checks nb ps mb dl p n c w R := by kernel_rfl
  have hb : Tryd.f7.body = some (Tryd.f7.body.getD .skip) := by kernel_rfl
  exact calls_of_exec' (P := Tryd.prog) (fn := Tryd.f7) (c := Tryd.f7.body.getD .skip) (args := [Value.agg
    #[Value.string nb, Value.string ps, Value.int IntKind.i64 mb, Value.int IntKind.i64 dl,
      Value.slice p n c]]) (w := w) (R := R) pur1_ok Tryd.func7 hb e h

def VC_reasons (nb : ByteArray) (ps : ByteArray) (mb : Int) (dl : Int) (p : Option Addr) (n : Nat) (c : Nat) (a : Array Value) (w : World) (R : Ending → World → Prop) : Prop :=
 ∀ (n_1 : Nat) (w1 : World),
 NewB w
 (Obj.cells #[Value.string nb, Value.string ps, Value.int IntKind.i64 mb, Value.int IntKind.i64 dl, Value.slice p n c]
 24)
 n_1 w1 →
 ∀ (n : Nat) (w1_1 : World),
 NewB w1 (Obj.cells a 27) n w1_1 →
 ∃ (x : ByteArray),
 ∃ (x_1 : ByteArray),
 ∃ (x_2 : Int),
 ∃ (x_3 : Int),
 ∃ (p : Option Addr),
 ∃ (n_2 : Nat),
 ∃ (c : Nat),
 AtL w1_1 n_1 0
 [Value.string x, Value.string x_1, Value.int IntKind.i64 x_2, Value.int IntKind.i64 x_3,
 Value.slice p n_2 c] ∧
 CallsS Tryd.prog 10
 #[Value.agg
 #[Value.string x, Value.string x_1, Value.int IntKind.i64 x_2, Value.int IntKind.i64 x_3,
 Value.slice p n_2 c]]
 w1_1 fun (e : Ending) (w' : World) =>
 ∃ (x : ByteArray),
 ∃ (x_4 : ByteArray),
 ∃ (x_5 : Int),
 ∃ (x_6 : Int),
 ∃ (p : Option Addr),
 ∃ (n_3 : Nat),
 ∃ (c : Nat),
 ∃ (x_7 : ByteArray),
 ∃ (x_8 : ByteArray),
 ∃ (x_9 : Int),
 ∃ (x_10 : Int),
 ∃ (p_1 : Option Addr),
 ∃ (n_4 : Nat),
 ∃ (c_1 : Nat),
 e =
 Ending.returned
 (Value.tuple
 #[Value.agg
 #[Value.string x, Value.string x_4, Value.int IntKind.i64 x_5,
 Value.int IntKind.i64 x_6, Value.slice p n_3 c],
 Value.agg
 #[Value.string x_7, Value.string x_8, Value.int IntKind.i64 x_9,
 Value.int IntKind.i64 x_10, Value.slice p_1 n_4 c_1]]) ∧
 ∀ (n_5 : Nat) (w1 : World),
 NewB w'
 (Obj.cells
 #[Value.string (ByteArray.mk #[]), Value.string (ByteArray.mk #[]),
 Value.int IntKind.i64 0, Value.int IntKind.i64 0, Value.slice none 0 0]
 28)
 n_5 w1 →
 ∀ (n_6 : Nat) (w1_2 : World),
 NewB w1
 (Obj.cells
 #[Value.string (ByteArray.mk #[]), Value.string (ByteArray.mk #[]),
 Value.int IntKind.i64 0, Value.int IntKind.i64 0, Value.slice none 0 0]
 24)
 n_6 w1_2 →
 WrL w1_2 n_5 0 5 ∧
 ∀ (w1 : World),
 PutB w1_2 n_5 0
 [Value.string x, Value.string x_4, Value.int IntKind.i64 x_5,
 Value.int IntKind.i64 x_6, Value.slice p n_3 c]
 w1 →
 WrL w1 n_6 0 5 ∧
 ∀ (w1_3 : World),
 PutB w1 n_6 0
 [Value.string x_7, Value.string x_8, Value.int IntKind.i64 x_9,
 Value.int IntKind.i64 x_10, Value.slice p_1 n_4 c_1]
 w1_3 →
 ∃ (x : ByteArray),
 ∃ (x_11 : ByteArray),
 ∃ (x_12 : Int),
 ∃ (x_13 : Int),
 ∃ (p : Option Addr),
 ∃ (n_7 : Nat),
 ∃ (c : Nat),
 AtL w1_3 n_5 0
 [Value.string x, Value.string x_11, Value.int IntKind.i64 x_12,
 Value.int IntKind.i64 x_13, Value.slice p n_7 c] ∧
 CallsS Tryd.prog 11
 #[Value.agg
 #[Value.string x, Value.string x_11, Value.int IntKind.i64 x_12,
 Value.int IntKind.i64 x_13, Value.slice p n_7 c]]
 w1_3 fun (e : Ending) (w' : World) =>
 ∃ (x : Option Addr),
 ∃ (x_14 : Int),
 e =
 Ending.returned
 (Value.tuple #[Value.pointer x, Value.int IntKind.i64 x_14]) ∧
 bsp (x_14 != 0 || x.isNone)
 (CallsS Tryd.prog 12 #[] w' fun (e : Ending) (w' : World) =>
 ∃ (x : Bool),
 e = Ending.returned (Value.bool x) ∧
 ∃ (x_15 : ByteArray),
 ∃ (x_16 : ByteArray),
 ∃ (x_17 : Int),
 ∃ (x_18 : Int),
 ∃ (p : Option Addr),
 ∃ (n : Nat),
 ∃ (c : Nat),
 gimp x
 (AtL w' n_6 0
 [Value.string x_15, Value.string x_16,
 Value.int IntKind.i64 x_17, Value.int IntKind.i64 x_18,
 Value.slice p n c]) ∧
 bsp x
 (CallsS Tryd.prog 13
 #[Value.agg
 #[Value.string x_15, Value.string x_16,
 Value.int IntKind.i64 x_17,
 Value.int IntKind.i64 x_18, Value.slice p n c]]
 w' fun (e : Ending) (w' : World) =>
 ∃ (x : Int),
 e = Ending.returned (Value.int IntKind.i64 x) ∧
 R (Ending.returned (Value.bool (true && x_14 == x)))
 w')
 (R (Ending.returned (Value.bool false)) w'))
 (∃ (f : Nat → Int),
 ∃ (p : Option Addr),
 ∃ (n_8 : Nat),
 ∃ (c : Nat),
 ∃ (x_15 : ByteArray),
 ∃ (x_16 : Int),
 ∃ (x_17 : Bool),
 ∃ (x_18 : ByteArray),
 ∃ (x_19 : Int),
 AtL w' n 0
 (arrI IntKind.u8 f 32 0 ++ [Value.slice p n_8 c, Value.string x_15,
 Value.int IntKind.i64 x_16, Value.bool x_17,
 Value.string x_18, Value.int IntKind.i64 x_19]) ∧
 CallsS Tryd.prog 14
 #[Value.agg
 (arrI IntKind.u8 f 32 0 ++ [Value.slice p n_8 c,
 Value.string x_15, Value.int IntKind.i64 x_16,
 Value.bool x_17, Value.string x_18,
 Value.int IntKind.i64 x_19]).toArray]
 w' fun (e : Ending) (w' : World) =>
 ∃ (f : Nat → Int),
 ∃ (p : Option Addr),
 ∃ (n : Nat),
 ∃ (c : Nat),
 ∃ (x_20 : ByteArray),
 ∃ (x_21 : Int),
 ∃ (x_22 : Bool),
 ∃ (x_23 : ByteArray),
 ∃ (x_24 : Int),
 ∃ (f_1 : Nat → Int),
 ∃ (p_2 : Option Addr),
 ∃ (n_9 : Nat),
 ∃ (c_2 : Nat),
 ∃ (x_25 : ByteArray),
 ∃ (x_26 : Int),
 ∃ (x_27 : Bool),
 ∃ (x_28 : ByteArray),
 ∃ (x_29 : Int),
 e =
 Ending.returned
 (Value.tuple
 #[Value.agg
 (arrI IntKind.u8 f 32 0 ++ [Value.slice p n c,
 Value.string x_20,
 Value.int IntKind.i64 x_21,
 Value.bool x_22,
 Value.string x_23,
 Value.int IntKind.i64 x_24]).toArray,
 Value.agg
 (arrI IntKind.u8 f_1 32 0 ++ [Value.slice p_2 n_9 c_2,
 Value.string x_25,
 Value.int IntKind.i64 x_26,
 Value.bool x_27,
 Value.string x_28,
 Value.int IntKind.i64 x_29]).toArray]) ∧
 ∀ (n_10 : Nat) (w1 : World),
 NewB w'
 (Obj.cells
 #[Value.int IntKind.u8 0,
 Value.int IntKind.u8 0,
 Value.int IntKind.u8 0,
 Value.int IntKind.u8 0,
 Value.int IntKind.u8 0,
 Value.int IntKind.u8 0,
 Value.int IntKind.u8 0,
 Value.int IntKind.u8 0,
 Value.int IntKind.u8 0,
 Value.int IntKind.u8 0,
 Value.int IntKind.u8 0,
 Value.int IntKind.u8 0,
 Value.int IntKind.u8 0,
 Value.int IntKind.u8 0,
 Value.int IntKind.u8 0,
 Value.int IntKind.u8 0,
 Value.int IntKind.u8 0,
 Value.int IntKind.u8 0,
 Value.int IntKind.u8 0,
 Value.int IntKind.u8 0,
 Value.int IntKind.u8 0,
 Value.int IntKind.u8 0,
 Value.int IntKind.u8 0,
 Value.int IntKind.u8 0,
 Value.int IntKind.u8 0,
 Value.int IntKind.u8 0,
 Value.int IntKind.u8 0,
 Value.int IntKind.u8 0,
 Value.int IntKind.u8 0,
 Value.int IntKind.u8 0,
 Value.int IntKind.u8 0,
 Value.int IntKind.u8 0,
 Value.slice none 0 0,
 Value.string (ByteArray.mk #[]),
 Value.int IntKind.i64 0,
 Value.bool false,
 Value.string (ByteArray.mk #[]),
 Value.int IntKind.i64 0]
 39)
 n_10 w1 →
 ∀ (n_11 : Nat) (w1_4 : World),
 NewB w1
 (Obj.cells
 #[Value.int IntKind.u8 0,
 Value.int IntKind.u8 0,
 Value.int IntKind.u8 0,
 Value.int IntKind.u8 0,
 Value.int IntKind.u8 0,
 Value.int IntKind.u8 0,
 Value.int IntKind.u8 0,
 Value.int IntKind.u8 0,
 Value.int IntKind.u8 0,
 Value.int IntKind.u8 0,
 Value.int IntKind.u8 0,
 Value.int IntKind.u8 0,
 Value.int IntKind.u8 0,
 Value.int IntKind.u8 0,
 Value.int IntKind.u8 0,
 Value.int IntKind.u8 0,
 Value.int IntKind.u8 0,
 Value.int IntKind.u8 0,
 Value.int IntKind.u8 0,
 Value.int IntKind.u8 0,
 Value.int IntKind.u8 0,
 Value.int IntKind.u8 0,
 Value.int IntKind.u8 0,
 Value.int IntKind.u8 0,
 Value.int IntKind.u8 0,
 Value.int IntKind.u8 0,
 Value.int IntKind.u8 0,
 Value.int IntKind.u8 0,
 Value.int IntKind.u8 0,
 Value.int IntKind.u8 0,
 Value.int IntKind.u8 0,
 Value.int IntKind.u8 0,
 Value.slice none 0 0,
 Value.string (ByteArray.mk #[]),
 Value.int IntKind.i64 0,
 Value.bool false,
 Value.string (ByteArray.mk #[]),
 Value.int IntKind.i64 0]
 27)
 n_11 w1_4 →
 WrL w1_4 n_10 0 38 ∧
 ∀ (w1 : World),
 PutB w1_4 n_10 0
 (arrI IntKind.u8 f 32 0 ++ [Value.slice p n c,
 Value.string x_20,
 Value.int IntKind.i64 x_21,
 Value.bool x_22,
 Value.string x_23,
 Value.int IntKind.i64 x_24])
 w1 →
 WrL w1 n_11 0 38 ∧
 ∀ (w1_5 : World),
 PutB w1 n_11 0
 (arrI IntKind.u8 f_1 32 0 ++ [Value.slice p_2 n_9 c_2,
 Value.string x_25,
 Value.int IntKind.i64 x_26,
 Value.bool x_27,
 Value.string x_28,
 Value.int IntKind.i64 x_29])
 w1_5 →
 ∃ (x_30 : ByteArray),
 ∃ (x_31 : ByteArray),
 ∃ (x_32 : Int),
 ∃ (x_33 : Int),
 ∃ (p : Option Addr),
 ∃ (n : Nat),
 ∃ (c : Nat),
 AtL w1_5 n_6 0
 [Value.string x_30,
 Value.string x_31,
 Value.int
 IntKind.i64 x_32,
 Value.int
 IntKind.i64 x_33,
 Value.slice p n
 c] ∧
 ∃ (f : Nat → Int),
 ∃ (p_3 :
 Option Addr),
 ∃ (n_12 : Nat),
 ∃ (c_3 : Nat),
 ∃ (x_34 :
 ByteArray),
 ∃ (x_35 : Int),
 ∃ (x_36 :
 Bool),
 ∃ (x_37 :
 ByteArray),
 ∃ (x_38 :
 Int),
 AtL w1_5
 n_11 0
 (arrI IntKind.u8 f 32 0 ++ [Value.slice
 p_3 n_12
 c_3,
 Value.string
 x_34,
 Value.int
 IntKind.i64
 x_35,
 Value.bool
 x_36,
 Value.string
 x_37,
 Value.int
 IntKind.i64
 x_38]) ∧
 CallsS
 Tryd.prog
 15
 #[Value.agg
 #[Value.string
 x_30,
 Value.string
 x_31,
 Value.int
 IntKind.i64
 x_32,
 Value.int
 IntKind.i64
 x_33,
 Value.slice
 p n
 c],
 Value.agg
 (arrI IntKind.u8 f 32 0 ++ [Value.slice
 p_3
 n_12
 c_3,
 Value.string
 x_34,
 Value.int
 IntKind.i64
 x_35,
 Value.bool
 x_36,
 Value.string
 x_37,
 Value.int
 IntKind.i64
 x_38]).toArray]
 w1_5
 fun
 (e :
 Ending)
 (w' :
 World) =>
 ∃ (x_39 :
 Int),
 e =
 Ending.returned
 (Value.int
 IntKind.i64
 x_39) ∧
 ∃ (f :
 Nat →
 Int),
 ∃ (p :
 Option
 Addr),
 ∃ (n :
 Nat),
 ∃ (c
 :
 Nat),
 ∃
 (x_40
 :
 ByteArray),
 ∃
 (x_41
 :
 Int),
 ∃
 (x_42
 :
 Bool),
 ∃
 (x_43
 :
 ByteArray),
 ∃
 (x_44
 :
 Int),
 AtL
 w'
 n_10
 0
 (arrI IntKind.u8 f 32 0 ++ [Value.slice
 p
 n
 c,
 Value.string
 x_40,
 Value.int
 IntKind.i64
 x_41,
 Value.bool
 x_42,
 Value.string
 x_43,
 Value.int
 IntKind.i64
 x_44]) ∧
 CallsS
 Tryd.prog
 16
 #[Value.pointer
 x,
 Value.agg
 (arrI IntKind.u8 f 32 0 ++ [Value.slice
 p
 n
 c,
 Value.string
 x_40,
 Value.int
 IntKind.i64
 x_41,
 Value.bool
 x_42,
 Value.string
 x_43,
 Value.int
 IntKind.i64
 x_44]).toArray]
 w'
 fun
 (e :
 Ending)
 (w' :
 World) =>
 ∃
 (x_45
 :
 Int),
 ∃
 (x_46
 :
 Bool),
 e =
 Ending.returned
 (Value.tuple
 #[Value.int
 IntKind.i64
 x_45,
 Value.bool
 x_46]) ∧
 ∃
 (f
 :
 Nat →
 Int),
 ∃
 (p
 :
 Option
 Addr),
 ∃
 (n
 :
 Nat),
 ∃
 (c
 :
 Nat),
 ∃
 (x_47
 :
 ByteArray),
 ∃
 (x_48
 :
 Int),
 ∃
 (x_49
 :
 Bool),
 ∃
 (x_50
 :
 ByteArray),
 ∃
 (x_51
 :
 Int),
 AtL
 w'
 n_10
 0
 (arrI IntKind.u8 f 32 0 ++ [Value.slice
 p
 n
 c,
 Value.string
 x_47,
 Value.int
 IntKind.i64
 x_48,
 Value.bool
 x_49,
 Value.string
 x_50,
 Value.int
 IntKind.i64
 x_51]) ∧
 CallsS
 Tryd.prog
 17
 #[Value.pointer
 x,
 Value.agg
 (arrI IntKind.u8 f 32 0 ++ [Value.slice
 p
 n
 c,
 Value.string
 x_47,
 Value.int
 IntKind.i64
 x_48,
 Value.bool
 x_49,
 Value.string
 x_50,
 Value.int
 IntKind.i64
 x_51]).toArray]
 w'
 fun
 (e :
 Ending)
 (w' :
 World) =>
 ∃
 (x
 :
 Int),
 e =
 Ending.returned
 (Value.int
 IntKind.i64
 x) ∧
 bsp
 (x !=
 x_39 ||
 !x_46 ==
 (x_39 ==
 0))
 (R
 (Ending.returned
 (Value.bool
 false))
 w')
 (CallsS
 Tryd.prog
 12
 #[]
 w'
 fun
 (e :
 Ending)
 (w' :
 World) =>
 ∃
 (x
 :
 Bool),
 e =
 Ending.returned
 (Value.bool
 x) ∧
 ∃
 (x_52
 :
 ByteArray),
 ∃
 (x_53
 :
 ByteArray),
 ∃
 (x_54
 :
 Int),
 ∃
 (x_55
 :
 Int),
 ∃
 (p
 :
 Option
 Addr),
 ∃
 (n
 :
 Nat),
 ∃
 (c
 :
 Nat),
 gimp
 (x &&
 x_46)
 (AtL
 w'
 n_6
 0
 [Value.string
 x_52,
 Value.string
 x_53,
 Value.int
 IntKind.i64
 x_54,
 Value.int
 IntKind.i64
 x_55,
 Value.slice
 p
 n
 c]) ∧
 ∃
 (f
 :
 Nat →
 Int),
 ∃
 (p_4
 :
 Option
 Addr),
 ∃
 (n_13
 :
 Nat),
 ∃
 (c_4
 :
 Nat),
 ∃
 (x_56
 :
 ByteArray),
 ∃
 (x_57
 :
 Int),
 ∃
 (x_58
 :
 Bool),
 ∃
 (x_59
 :
 ByteArray),
 ∃
 (x_60
 :
 Int),
 gimp
 (x &&
 x_46)
 (AtL
 w'
 n_11
 0
 (arrI IntKind.u8 f 32 0 ++ [Value.slice
 p_4
 n_13
 c_4,
 Value.string
 x_56,
 Value.int
 IntKind.i64
 x_57,
 Value.bool
 x_58,
 Value.string
 x_59,
 Value.int
 IntKind.i64
 x_60])) ∧
 bsp
 x
 (bsp
 x_46
 (CallsS
 Tryd.prog
 18
 #[Value.agg
 #[Value.string
 x_52,
 Value.string
 x_53,
 Value.int
 IntKind.i64
 x_54,
 Value.int
 IntKind.i64
 x_55,
 Value.slice
 p
 n
 c],
 Value.agg
 (arrI IntKind.u8 f 32 0 ++ [Value.slice
 p_4
 n_13
 c_4,
 Value.string
 x_56,
 Value.int
 IntKind.i64
 x_57,
 Value.bool
 x_58,
 Value.string
 x_59,
 Value.int
 IntKind.i64
 x_60]).toArray]
 w'
 fun
 (e :
 Ending)
 (w' :
 World) =>
 ∃
 (x
 :
 Int),
 e =
 Ending.returned
 (Value.int
 IntKind.i64
 x) ∧
 R
 (Ending.returned
 (Value.bool
 (true &&
 (true &&
 x_45 ==
 x ||
 !x_46 &&
 x_45 ==
 0))))
 w')
 (R
 (Ending.returned
 (Value.bool
 (true &&
 (false ||
 !x_46 &&
 x_45 ==
 0))))
 w'))
 (R
 (Ending.returned
 (Value.bool
 false))
 w')))
theorem vc_reasons (nb : ByteArray) (ps : ByteArray) (mb : Int) (dl : Int) (p : Option Addr) (n : Nat) (c : Nat) (a : Array Value) (w : World) (R : Ending → World → Prop) (h : VC_reasons nb ps mb dl p n c a w R) : Calls Tryd.prog 3 ([Value.agg
    #[Value.string nb, Value.string ps, Value.int IntKind.i64 mb, Value.int IntKind.i64 dl, Value.slice p n c],
  Value.agg a] : List Value).toArray w R := by
  have e : execR { P := Tryd.prog, loops := [], pur := pur1, tails := [], joins := [], boxes := [] } Tryd.f3.results.toList R (Tryd.f3.body.getD .skip) (initF [Value.agg
    #[Value.string nb, Value.string ps, Value.int IntKind.i64 mb, Value.int IntKind.i64 dl, Value.slice p n c],
  Value.agg
    a] (Tryd.f3.ntmps - ([Value.agg
    #[Value.string nb, Value.string ps, Value.int IntKind.i64 mb, Value.int IntKind.i64 dl, Value.slice p n c],
  Value.agg a] : List Value).length)) w = VC_reasons nb ps mb dl p n c a w R := by kernel_rfl
  have hb : Tryd.f3.body = some (Tryd.f3.body.getD .skip) := by kernel_rfl
  exact calls_of_exec' (P := Tryd.prog) (fn := Tryd.f3) (c := Tryd.f3.body.getD .skip) (args := [Value.agg
    #[Value.string nb, Value.string ps, Value.int IntKind.i64 mb, Value.int IntKind.i64 dl, Value.slice p n c],
  Value.agg a]) (w := w) (R := R) pur1_ok Tryd.func3 hb e h

end Go.Proofs.YtcpjajjocmpkjaaDoor
