/- The formulas of functions by the symbolic evaluator, and that each gives the call's contract. Written by a program (gen.py). No condition. -/
import Derived.Test.YtcpjajjocmpkjaaDoorProg
import Derived.Test.YtcpjajjocmpkjaaDoorZ02
import Derived.Test.YtcpjajjocmpkjaaDoorZ04
import Derived.KernelRfl
import Derived.Test.YtcpjajjocmpkjaaDoorZ08
import Derived.Test.YtcpjajjocmpkjaaDoorZ10
namespace Go.Proofs.YtcpjajjocmpkjaaDoor
set_option maxRecDepth 100000
set_option linter.unusedVariables false

def VC_qclone (q : Option Addr) (w : World) (R : Ending → World → Prop) : Prop :=
 bsp q.isNone (R (Ending.returned (Value.pointer none)) w)
 (nn true q fun (b o : Nat) =>
 ∃ (x : Int),
 ∃ (x_1 : Bool),
 ∃ (x_2 : Int),
 ∃ (x_3 : Int),
 AtL w b o [Value.int IntKind.i64 x, Value.bool x_1, Value.int IntKind.i64 x_2, Value.int IntKind.i64 x_3] ∧
 ∀ (n : Nat) (w1 : World),
 NewB w
 (Obj.cells #[Value.int IntKind.i64 0, Value.bool false, Value.int IntKind.i64 0, Value.int IntKind.i64 0] 93)
 n w1 →
 WrL w1 n 0 4 ∧
 ∀ (w1_1 : World),
 PutB w1 n 0 [Value.int IntKind.i64 x, Value.bool x_1, Value.int IntKind.i64 x_2, Value.int IntKind.i64 x_3]
 w1_1 →
 R (Ending.returned (Value.pointer (some (Addr.mk n 0 none)))) w1_1)
theorem vc_qclone (q : Option Addr) (w : World) (R : Ending → World → Prop) (h : VC_qclone q w R) : Calls Tryd.prog 28 ([Value.pointer
    q] : List Value).toArray w R := by
  have e : execR { P := Tryd.prog, loops := [], pur := pur1, tails := [], joins := [], boxes := [] } Tryd.f28.results.toList R (Tryd.f28.body.getD .skip) (initF [Value.pointer
    q] (Tryd.f28.ntmps - ([Value.pointer q] : List Value).length)) w = VC_qclone q w R := by kernel_rfl
  have hb : Tryd.f28.body = some (Tryd.f28.body.getD .skip) := by kernel_rfl
  exact calls_of_exec' (P := Tryd.prog) (fn := Tryd.f28) (c := Tryd.f28.body.getD .skip) (args := [Value.pointer
    q]) (w := w) (R := R) pur1_ok Tryd.func28 hb e h

def VC_takeNil (n : Int) (now : Int) (w : World) (R : Ending → World → Prop) : Prop :=
 R (Ending.returned (Value.int IntKind.i64 1)) w
theorem vc_takeNil (n : Int) (now : Int) (w : World) (R : Ending → World → Prop) (h : VC_takeNil n now w R) : Calls Tryd.prog 21 ([Value.pointer
    none,
  Value.int IntKind.i64 n, Value.int IntKind.i64 now] : List Value).toArray w R := by
  have e : execR { P := Tryd.prog, loops := [], pur := pur1, tails := [], joins := [], boxes := [] } Tryd.f21.results.toList R (Tryd.f21.body.getD .skip) (initF [Value.pointer
    none,
  Value.int IntKind.i64 n,
  Value.int IntKind.i64
    now] (Tryd.f21.ntmps - ([Value.pointer none, Value.int IntKind.i64 n,
  Value.int IntKind.i64 now] : List Value).length)) w = VC_takeNil n now w R := by kernel_rfl
  have hb : Tryd.f21.body = some (Tryd.f21.body.getD .skip) := by kernel_rfl
  exact calls_of_exec' (P := Tryd.prog) (fn := Tryd.f21) (c := Tryd.f21.body.getD .skip) (args := [Value.pointer none,
  Value.int IntKind.i64 n, Value.int IntKind.i64 now]) (w := w) (R := R) pur1_ok Tryd.func21 hb e h

def VC_leftNil (now : Int) (w : World) (R : Ending → World → Prop) : Prop :=
 R (Ending.returned (Value.int IntKind.i64 0)) w
theorem vc_leftNil (now : Int) (w : World) (R : Ending → World → Prop) (h : VC_leftNil now w R) : Calls Tryd.prog 22 ([Value.pointer
    none,
  Value.int IntKind.i64 now] : List Value).toArray w R := by
  have e : execR { P := Tryd.prog, loops := [], pur := pur1, tails := [], joins := [], boxes := [] } Tryd.f22.results.toList R (Tryd.f22.body.getD .skip) (initF [Value.pointer
    none,
  Value.int IntKind.i64
    now] (Tryd.f22.ntmps - ([Value.pointer none,
  Value.int IntKind.i64 now] : List Value).length)) w = VC_leftNil now w R := by kernel_rfl
  have hb : Tryd.f22.body = some (Tryd.f22.body.getD .skip) := by kernel_rfl
  exact calls_of_exec' (P := Tryd.prog) (fn := Tryd.f22) (c := Tryd.f22.body.getD .skip) (args := [Value.pointer none,
  Value.int IntKind.i64 now]) (w := w) (R := R) pur1_ok Tryd.func22 hb e h

def VC_checks (nb : ByteArray) (ps : ByteArray) (mb : Int) (dl : Int) (p : Option Addr) (n : Nat) (c : Nat) (w : World) (R : Ending → World → Prop) : Prop :=
 ∀ (n_1 : Nat) (w1 : World),
 NewB w
 (Obj.cells #[Value.string nb, Value.string ps, Value.int IntKind.i64 mb, Value.int IntKind.i64 dl, Value.slice p n c]
 24)
 n_1 w1 →
 ∃ (x : ByteArray),
 ∃ (x_1 : ByteArray),
 ∃ (x_2 : Int),
 ∃ (x_3 : Int),
 ∃ (p : Option Addr),
 ∃ (n : Nat),
 ∃ (c : Nat),
 AtL w1 n_1 0
 [Value.string x, Value.string x_1, Value.int IntKind.i64 x_2, Value.int IntKind.i64 x_3, Value.slice p n c] ∧
 CallsS Tryd.prog 10
 #[Value.agg
 #[Value.string x, Value.string x_1, Value.int IntKind.i64 x_2, Value.int IntKind.i64 x_3,
 Value.slice p n c]]
 w1 fun (e : Ending) (w' : World) =>
 ∃ (x : ByteArray),
 ∃ (x_4 : ByteArray),
 ∃ (x_5 : Int),
 ∃ (x_6 : Int),
 ∃ (p : Option Addr),
 ∃ (n : Nat),
 ∃ (c : Nat),
 ∃ (x_7 : ByteArray),
 ∃ (x_8 : ByteArray),
 ∃ (x_9 : Int),
 ∃ (x_10 : Int),
 ∃ (p_1 : Option Addr),
 ∃ (n_2 : Nat),
 ∃ (c_1 : Nat),
 e =
 Ending.returned
 (Value.tuple
 #[Value.agg
 #[Value.string x, Value.string x_4, Value.int IntKind.i64 x_5, Value.int IntKind.i64 x_6,
 Value.slice p n c],
 Value.agg
 #[Value.string x_7, Value.string x_8, Value.int IntKind.i64 x_9,
 Value.int IntKind.i64 x_10, Value.slice p_1 n_2 c_1]]) ∧
 ∀ (n_3 : Nat) (w1 : World),
 NewB w'
 (Obj.cells
 #[Value.string (ByteArray.mk #[]), Value.string (ByteArray.mk #[]),
 Value.int IntKind.i64 0, Value.int IntKind.i64 0, Value.slice none 0 0]
 28)
 n_3 w1 →
 ∀ (n_4 : Nat) (w1_1 : World),
 NewB w1
 (Obj.cells
 #[Value.string (ByteArray.mk #[]), Value.string (ByteArray.mk #[]),
 Value.int IntKind.i64 0, Value.int IntKind.i64 0, Value.slice none 0 0]
 24)
 n_4 w1_1 →
 WrL w1_1 n_3 0 5 ∧
 ∀ (w1 : World),
 PutB w1_1 n_3 0
 [Value.string x, Value.string x_4, Value.int IntKind.i64 x_5,
 Value.int IntKind.i64 x_6, Value.slice p n c]
 w1 →
 WrL w1 n_4 0 5 ∧
 ∀ (w1_2 : World),
 PutB w1 n_4 0
 [Value.string x_7, Value.string x_8, Value.int IntKind.i64 x_9,
 Value.int IntKind.i64 x_10, Value.slice p_1 n_2 c_1]
 w1_2 →
 ∃ (x : ByteArray),
 ∃ (x_11 : ByteArray),
 ∃ (x_12 : Int),
 ∃ (x_13 : Int),
 ∃ (p : Option Addr),
 ∃ (n : Nat),
 ∃ (c : Nat),
 AtL w1_2 n_4 0
 [Value.string x, Value.string x_11, Value.int IntKind.i64 x_12,
 Value.int IntKind.i64 x_13, Value.slice p n c] ∧
 CallsS Tryd.prog 13
 #[Value.agg
 #[Value.string x, Value.string x_11, Value.int IntKind.i64 x_12,
 Value.int IntKind.i64 x_13, Value.slice p n c]]
 w1_2 fun (e : Ending) (w' : World) =>
 ∃ (x : Int),
 e = Ending.returned (Value.int IntKind.i64 x) ∧
 ∃ (x_14 : ByteArray),
 ∃ (x_15 : ByteArray),
 ∃ (x_16 : Int),
 ∃ (x_17 : Int),
 ∃ (p : Option Addr),
 ∃ (n : Nat),
 ∃ (c : Nat),
 AtL w' n_3 0
 [Value.string x_14, Value.string x_15,
 Value.int IntKind.i64 x_16, Value.int IntKind.i64 x_17,
 Value.slice p n c] ∧
 CallsS Tryd.prog 11
 #[Value.agg
 #[Value.string x_14, Value.string x_15,
 Value.int IntKind.i64 x_16, Value.int IntKind.i64 x_17,
 Value.slice p n c]]
 w' fun (e : Ending) (w' : World) =>
 ∃ (x_18 : Option Addr),
 ∃ (x_19 : Int),
 e =
 Ending.returned
 (Value.tuple
 #[Value.pointer x_18, Value.int IntKind.i64 x_19]) ∧
 ∃ (x_20 : ByteArray),
 ∃ (x_21 : ByteArray),
 ∃ (x_22 : Int),
 ∃ (x_23 : Int),
 ∃ (p : Option Addr),
 ∃ (n : Nat),
 ∃ (c : Nat),
 AtL w' n_3 0
 [Value.string x_20, Value.string x_21,
 Value.int IntKind.i64 x_22,
 Value.int IntKind.i64 x_23, Value.slice p n c] ∧
 CallsS Tryd.prog 24
 #[Value.agg
 #[Value.string x_20, Value.string x_21,
 Value.int IntKind.i64 x_22,
 Value.int IntKind.i64 x_23, Value.slice p n c]]
 w' fun (e : Ending) (w' : World) =>
 ∃ (x_24 : Int),
 e = Ending.returned (Value.int IntKind.i64 x_24) ∧
 bsp
 (x_24 != x || x_19 != x ||
 !x_18.isNone == (x != 0))
 (R (Ending.returned (Value.bool false)) w')
 (bsp x_18.isNone
 (CallsS Tryd.prog 12 #[] w'
 fun (e : Ending) (w' : World) =>
 ∃ (x : Bool),
 e = Ending.returned (Value.bool x) ∧
 R (Ending.returned (Value.bool x)) w')
 (CallsS Tryd.prog 25 #[Value.pointer x_18] w'
 fun (e : Ending) (w' : World) =>
 ∃ (x : ByteArray),
 ∃ (x_25 : ByteArray),
 ∃ (x_26 : Int),
 ∃ (x_27 : Int),
 ∃ (p : Option Addr),
 ∃ (n : Nat),
 ∃ (c : Nat),
 e =
 Ending.returned
 (Value.agg
 #[Value.string x, Value.string x_25,
 Value.int IntKind.i64 x_26,
 Value.int IntKind.i64 x_27,
 Value.slice p n c]) ∧
 ∀ (n_5 : Nat) (w1 : World),
 NewB w'
 (Obj.cells
 #[Value.string (ByteArray.mk #[]),
 Value.string (ByteArray.mk #[]),
 Value.int IntKind.i64 0,
 Value.int IntKind.i64 0,
 Value.slice none 0 0]
 28)
 n_5 w1 →
 WrL w1 n_5 0 5 ∧
 ∀ (w1_3 : World),
 PutB w1 n_5 0
 [Value.string x,
 Value.string x_25,
 Value.int IntKind.i64 x_26,
 Value.int IntKind.i64 x_27,
 Value.slice p n c]
 w1_3 →
 ∃ (p : Option Addr),
 ∃ (n : Nat),
 ∃ (c : Nat),
 w1_3.cell?
 (Addr.mk n_5 (0 + 4) none) =
 some (Value.slice p n c) ∧
 ∃ (p : Option Addr),
 ∃ (n_6 : Nat),
 ∃ (c : Nat),
 w1_3.cell?
 (Addr.mk n_4 (0 + 4)
 none) =
 some
 (Value.slice p n_6 c) ∧
 ∃ (x : ByteArray),
 gimp
 (!(↑n : Int) !=
 (↑n_6 : Int))
 (w1_3.cell?
 (Addr.mk n_5 0
 none) =
 some
 (Value.string x)) ∧
 ∃ (x_28 : ByteArray),
 gimp
 (!(↑n : Int) !=
 (↑n_6 : Int))
 (w1_3.cell?
 (Addr.mk n_4 0
 none) =
 some
 (Value.string
 x_28)) ∧
 ∃ (x_29 : ByteArray),
 gimp
 (!((↑n : Int) !=
 (↑n_6 : Int) ||
 !x.toList ==
 x_28.toList))
 (w1_3.cell?
 (Addr.mk n_5
 (0 + 1) none) =
 some
 (Value.string
 x_29)) ∧
 ∃ (x_30 :
 ByteArray),
 gimp
 (!((↑n : Int) !=
 (↑n_6 :
 Int) ||
 !x.toList ==
 x_28.toList))
 (w1_3.cell?
 (Addr.mk n_4
 (0 + 1)
 none) =
 some
 (Value.string
 x_30)) ∧
 ∃ (x_31 : Int),
 gimp
 (!((↑n :
 Int) !=
 (↑n_6 :
 Int) ||
 !x.toList ==
 x_28.toList ||
 !x_29.toList ==
 x_30.toList))
 (w1_3.cell?
 (Addr.mk n_5
 (0 + 2)
 none) =
 some
 (Value.int
 IntKind.i64
 x_31)) ∧
 ∃ (x_32 : Int),
 gimp
 (!((↑n :
 Int) !=
 (↑n_6 :
 Int) ||
 !x.toList ==
 x_28.toList ||
 !x_29.toList ==
 x_30.toList))
 (w1_3.cell?
 (Addr.mk
 n_4
 (0 + 2)
 none) =
 some
 (Value.int
 IntKind.i64
 x_32)) ∧
 ∃ (x_33 :
 Int),
 gimp
 (!((↑n :
 Int) !=
 (↑n_6 :
 Int) ||
 !x.toList ==
 x_28.toList ||
 !x_29.toList ==
 x_30.toList ||
 x_31 !=
 x_32))
 (w1_3.cell?
 (Addr.mk
 n_5
 (0 + 3)
 none) =
 some
 (Value.int
 IntKind.i64
 x_33)) ∧
 ∃ (x_34 :
 Int),
 gimp
 (!((↑n :
 Int) !=
 (↑n_6 :
 Int) ||
 !x.toList ==
 x_28.toList ||
 !x_29.toList ==
 x_30.toList ||
 x_31 !=
 x_32))
 (w1_3.cell?
 (Addr.mk
 n_4
 (0 +
 3)
 none) =
 some
 (Value.int
 IntKind.i64
 x_34)) ∧
 bsp
 ((↑n :
 Int) !=
 (↑n_6 :
 Int) ||
 !x.toList ==
 x_28.toList ||
 !x_29.toList ==
 x_30.toList ||
 x_31 !=
 x_32 ||
 x_33 !=
 x_34)
 (R
 (Ending.returned
 (Value.bool
 false))
 w1_3)
 (∃ (I :
 List
 Value →
 World →
 Prop),
 ∃ (m :
 List
 Value →
 World →
 Nat),
 I
 [Value.int
 IntKind.i64
 0]
 w1_3 ∧
 ∀
 (x :
 Int)
 (w' :
 World),
 I
 [Value.int
 IntKind.i64
 x]
 w' →
 ∃ (p
 :
 Option
 Addr),
 ∃
 (n
 :
 Nat),
 ∃
 (c
 :
 Nat),
 w'.cell?
 (Addr.mk
 n_5
 (0 +
 4)
 none) =
 some
 (Value.slice
 p
 n
 c) ∧
 bsp
 (decide
 (x <
 (↑n :
 Int)))
 (∃
 (p
 :
 Option
 Addr),
 ∃
 (n
 :
 Nat),
 ∃
 (c
 :
 Nat),
 w'.drew.cell?
 (Addr.mk
 n_5
 (0 +
 4)
 none) =
 some
 (Value.slice
 p
 n
 c) ∧
 nn
 true
 p
 fun
 (b
 o :
 Nat) =>
 (0 ≤
 x ∧
 x <
 (↑n :
 Int)) ∧
 ∃
 (x_35
 :
 ByteArray),
 w'.drew.cell?
 (Addr.mk
 b
 (o +
 x.toNat)
 none) =
 some
 (Value.string
 x_35) ∧
 ∃
 (p
 :
 Option
 Addr),
 ∃
 (n
 :
 Nat),
 ∃
 (c
 :
 Nat),
 w'.drew.cell?
 (Addr.mk
 n_4
 (0 +
 4)
 none) =
 some
 (Value.slice
 p
 n
 c) ∧
 nn
 true
 p
 fun
 (b
 o :
 Nat) =>
 (0 ≤
 x ∧
 x <
 (↑n :
 Int)) ∧
 ∃
 (x_36
 :
 ByteArray),
 w'.drew.cell?
 (Addr.mk
 b
 (o +
 x.toNat)
 none) =
 some
 (Value.string
 x_36) ∧
 bsp
 (!x_35.toList ==
 x_36.toList)
 (R
 (Ending.returned
 (Value.bool
 false))
 w'.drew)
 (∃
 (S
 :
 World →
 Prop),
 S
 w'.drew.drew ∧
 ∃
 (p
 :
 Option
 Addr),
 ∃
 (n
 :
 Nat),
 ∃
 (c
 :
 Nat),
 (∀
 (w' :
 World),
 S
 w' →
 w'.cell?
 (Addr.mk
 n_5
 (0 +
 4)
 none) =
 some
 (Value.slice
 p
 n
 c)) ∧
 ∃
 (p_2
 :
 Option
 Addr),
 ∃
 (n_7
 :
 Nat),
 ∃
 (c
 :
 Nat),
 (∀
 (w' :
 World),
 S
 w' →
 w'.cell?
 (Addr.mk
 n_3
 (0 +
 4)
 none) =
 some
 (Value.slice
 p_2
 n_7
 c)) ∧
 nn
 true
 p
 fun
 (b
 o :
 Nat) =>
 (0 ≤
 x ∧
 x <
 (↑n :
 Int)) ∧
 ((∃
 (u
 :
 Value),
 w'.drew.drew.cell?
 (Addr.mk
 b
 (o +
 x.toNat)
 none) =
 some
 u) ∧
 w'.drew.drew.frozen?
 (Addr.mk
 b
 (o +
 x.toNat)
 none) =
 false) ∧
 ∀
 (w1 :
 World),
 PutB
 w'.drew.drew
 b
 (o +
 x.toNat)
 [Value.string
 (ByteArray.mk
 #[99,
 104,
 97,
 110,
 103,
 101,
 100])]
 w1 →
 S
 w1 ∧
 nn
 true
 p_2
 fun
 (b
 o :
 Nat) =>
 (0 ≤
 x ∧
 x <
 (↑n_7 :
 Int)) ∧
 ((∃
 (u
 :
 Value),
 w1.cell?
 (Addr.mk
 b
 (o +
 x.toNat)
 none) =
 some
 u) ∧
 w1.frozen?
 (Addr.mk
 b
 (o +
 x.toNat)
 none) =
 false) ∧
 ∀
 (w1_4 :
 World),
 PutB
 w1
 b
 (o +
 x.toNat)
 [Value.string
 (ByteArray.mk
 #[99,
 104,
 97,
 110,
 103,
 101,
 100])]
 w1_4 →
 I
 [Value.int
 IntKind.i64
 (IntKind.i64.wrap
 (x +
 1))]
 w1_4 ∧
 m
 [Value.int
 IntKind.i64
 (IntKind.i64.wrap
 (x +
 1))]
 w1_4 <
 m
 [Value.int
 IntKind.i64
 x]
 w'))
 (CallsS
 Tryd.prog
 25
 #[Value.pointer
 x_18]
 w'
 fun
 (e :
 Ending)
 (w' :
 World) =>
 ∃
 (x
 :
 ByteArray),
 ∃
 (x_35
 :
 ByteArray),
 ∃
 (x_36
 :
 Int),
 ∃
 (x_37
 :
 Int),
 ∃
 (p
 :
 Option
 Addr),
 ∃
 (n
 :
 Nat),
 ∃
 (c
 :
 Nat),
 e =
 Ending.returned
 (Value.agg
 #[Value.string
 x,
 Value.string
 x_35,
 Value.int
 IntKind.i64
 x_36,
 Value.int
 IntKind.i64
 x_37,
 Value.slice
 p
 n
 c]) ∧
 ∀
 (n_7 :
 Nat)
 (w1 :
 World),
 NewB
 w'
 (Obj.cells
 #[Value.string
 (ByteArray.mk
 #[]),
 Value.string
 (ByteArray.mk
 #[]),
 Value.int
 IntKind.i64
 0,
 Value.int
 IntKind.i64
 0,
 Value.slice
 none
 0
 0]
 28)
 n_7
 w1 →
 WrL
 w1
 n_7
 0
 5 ∧
 ∀
 (w1_4 :
 World),
 PutB
 w1
 n_7
 0
 [Value.string
 x,
 Value.string
 x_35,
 Value.int
 IntKind.i64
 x_36,
 Value.int
 IntKind.i64
 x_37,
 Value.slice
 p
 n
 c]
 w1_4 →
 ∃
 (I
 :
 List
 Value →
 World →
 Prop),
 ∃
 (m
 :
 List
 Value →
 World →
 Nat),
 I
 [Value.int
 IntKind.i64
 0]
 w1_4 ∧
 ∀
 (x :
 Int)
 (w' :
 World),
 I
 [Value.int
 IntKind.i64
 x]
 w' →
 ∃
 (p
 :
 Option
 Addr),
 ∃
 (n
 :
 Nat),
 ∃
 (c
 :
 Nat),
 w'.cell?
 (Addr.mk
 n_7
 (0 +
 4)
 none) =
 some
 (Value.slice
 p
 n
 c) ∧
 bsp
 (decide
 (x <
 (↑n :
 Int)))
 (∃
 (p
 :
 Option
 Addr),
 ∃
 (n
 :
 Nat),
 ∃
 (c
 :
 Nat),
 w'.drew.cell?
 (Addr.mk
 n_7
 (0 +
 4)
 none) =
 some
 (Value.slice
 p
 n
 c) ∧
 nn
 true
 p
 fun
 (b
 o :
 Nat) =>
 (0 ≤
 x ∧
 x <
 (↑n :
 Int)) ∧
 ∃
 (x_38
 :
 ByteArray),
 w'.drew.cell?
 (Addr.mk
 b
 (o +
 x.toNat)
 none) =
 some
 (Value.string
 x_38) ∧
 ∃
 (p
 :
 Option
 Addr),
 ∃
 (n
 :
 Nat),
 ∃
 (c
 :
 Nat),
 w'.drew.cell?
 (Addr.mk
 n_4
 (0 +
 4)
 none) =
 some
 (Value.slice
 p
 n
 c) ∧
 nn
 true
 p
 fun
 (b
 o :
 Nat) =>
 (0 ≤
 x ∧
 x <
 (↑n :
 Int)) ∧
 ∃
 (x_39
 :
 ByteArray),
 w'.drew.cell?
 (Addr.mk
 b
 (o +
 x.toNat)
 none) =
 some
 (Value.string
 x_39) ∧
 bsp
 (!x_38.toList ==
 x_39.toList)
 (R
 (Ending.returned
 (Value.bool
 false))
 w'.drew)
 (I
 [Value.int
 IntKind.i64
 (IntKind.i64.wrap
 (x +
 1))]
 w'.drew ∧
 m
 [Value.int
 IntKind.i64
 (IntKind.i64.wrap
 (x +
 1))]
 w'.drew <
 m
 [Value.int
 IntKind.i64
 x]
 w'))
 (CallsS
 Tryd.prog
 12
 #[]
 w'
 fun
 (e :
 Ending)
 (w' :
 World) =>
 ∃
 (x
 :
 Bool),
 e =
 Ending.returned
 (Value.bool
 x) ∧
 R
 (Ending.returned
 (Value.bool
 x))
 w')))))
theorem vc_checks (nb : ByteArray) (ps : ByteArray) (mb : Int) (dl : Int) (p : Option Addr) (n : Nat) (c : Nat) (w : World) (R : Ending → World → Prop) (h : VC_checks nb ps mb dl p n c w R) : Calls Tryd.prog 7 ([Value.agg
    #[Value.string nb, Value.string ps, Value.int IntKind.i64 mb, Value.int IntKind.i64 dl,
      Value.slice p n c]] : List Value).toArray w R := by
  have e : execR { P := Tryd.prog, loops := [(12, [(9, Ck.int IntKind.i64)]), (19, [(11, Ck.int IntKind.i64)])], pur := pur1, tails := [(16, 7)], joins := [], boxes := [] } Tryd.f7.results.toList R (Tryd.f7.body.getD .skip) (initF [Value.agg
    #[Value.string nb, Value.string ps, Value.int IntKind.i64 mb, Value.int IntKind.i64 dl,
      Value.slice p n
        c]] (Tryd.f7.ntmps - ([Value.agg
    #[Value.string nb, Value.string ps, Value.int IntKind.i64 mb, Value.int IntKind.i64 dl,
      Value.slice p n c]] : List Value).length)) w = VC_checks nb ps mb dl p n c w R := by kernel_rfl
  have hb : Tryd.f7.body = some (Tryd.f7.body.getD .skip) := by kernel_rfl
  exact calls_of_exec' (P := Tryd.prog) (fn := Tryd.f7) (c := Tryd.f7.body.getD .skip) (args := [Value.agg
    #[Value.string nb, Value.string ps, Value.int IntKind.i64 mb, Value.int IntKind.i64 dl,
      Value.slice p n c]]) (w := w) (R := R) pur1_ok Tryd.func7 hb e h

def VC_reasons (nb : ByteArray) (ps : ByteArray) (mb : Int) (dl : Int) (p : Option Addr) (n : Nat) (c : Nat) (a : Array Value) (w : World) (R : Ending → World → Prop) : Prop :=
 ∀ (n_1 : Nat) (w1 : World),
 NewB w
 (Obj.cells #[Value.string nb, Value.string ps, Value.int IntKind.i64 mb, Value.int IntKind.i64 dl, Value.slice p n c]
 24)
 n_1 w1 →
 ∀ (n : Nat) (w1_1 : World),
 NewB w1 (Obj.cells a 27) n w1_1 →
 ∃ (x : ByteArray),
 ∃ (x_1 : ByteArray),
 ∃ (x_2 : Int),
 ∃ (x_3 : Int),
 ∃ (p : Option Addr),
 ∃ (n_2 : Nat),
 ∃ (c : Nat),
 AtL w1_1 n_1 0
 [Value.string x, Value.string x_1, Value.int IntKind.i64 x_2, Value.int IntKind.i64 x_3,
 Value.slice p n_2 c] ∧
 CallsS Tryd.prog 10
 #[Value.agg
 #[Value.string x, Value.string x_1, Value.int IntKind.i64 x_2, Value.int IntKind.i64 x_3,
 Value.slice p n_2 c]]
 w1_1 fun (e : Ending) (w' : World) =>
 ∃ (x : ByteArray),
 ∃ (x_4 : ByteArray),
 ∃ (x_5 : Int),
 ∃ (x_6 : Int),
 ∃ (p : Option Addr),
 ∃ (n_3 : Nat),
 ∃ (c : Nat),
 ∃ (x_7 : ByteArray),
 ∃ (x_8 : ByteArray),
 ∃ (x_9 : Int),
 ∃ (x_10 : Int),
 ∃ (p_1 : Option Addr),
 ∃ (n_4 : Nat),
 ∃ (c_1 : Nat),
 e =
 Ending.returned
 (Value.tuple
 #[Value.agg
 #[Value.string x, Value.string x_4, Value.int IntKind.i64 x_5,
 Value.int IntKind.i64 x_6, Value.slice p n_3 c],
 Value.agg
 #[Value.string x_7, Value.string x_8, Value.int IntKind.i64 x_9,
 Value.int IntKind.i64 x_10, Value.slice p_1 n_4 c_1]]) ∧
 ∀ (n_5 : Nat) (w1 : World),
 NewB w'
 (Obj.cells
 #[Value.string (ByteArray.mk #[]), Value.string (ByteArray.mk #[]),
 Value.int IntKind.i64 0, Value.int IntKind.i64 0, Value.slice none 0 0]
 28)
 n_5 w1 →
 ∀ (n_6 : Nat) (w1_2 : World),
 NewB w1
 (Obj.cells
 #[Value.string (ByteArray.mk #[]), Value.string (ByteArray.mk #[]),
 Value.int IntKind.i64 0, Value.int IntKind.i64 0, Value.slice none 0 0]
 24)
 n_6 w1_2 →
 WrL w1_2 n_5 0 5 ∧
 ∀ (w1 : World),
 PutB w1_2 n_5 0
 [Value.string x, Value.string x_4, Value.int IntKind.i64 x_5,
 Value.int IntKind.i64 x_6, Value.slice p n_3 c]
 w1 →
 WrL w1 n_6 0 5 ∧
 ∀ (w1_3 : World),
 PutB w1 n_6 0
 [Value.string x_7, Value.string x_8, Value.int IntKind.i64 x_9,
 Value.int IntKind.i64 x_10, Value.slice p_1 n_4 c_1]
 w1_3 →
 ∃ (x : ByteArray),
 ∃ (x_11 : ByteArray),
 ∃ (x_12 : Int),
 ∃ (x_13 : Int),
 ∃ (p : Option Addr),
 ∃ (n_7 : Nat),
 ∃ (c : Nat),
 AtL w1_3 n_5 0
 [Value.string x, Value.string x_11, Value.int IntKind.i64 x_12,
 Value.int IntKind.i64 x_13, Value.slice p n_7 c] ∧
 CallsS Tryd.prog 11
 #[Value.agg
 #[Value.string x, Value.string x_11, Value.int IntKind.i64 x_12,
 Value.int IntKind.i64 x_13, Value.slice p n_7 c]]
 w1_3 fun (e : Ending) (w' : World) =>
 ∃ (x : Option Addr),
 ∃ (x_14 : Int),
 e =
 Ending.returned
 (Value.tuple #[Value.pointer x, Value.int IntKind.i64 x_14]) ∧
 bsp (x_14 != 0 || x.isNone)
 (CallsS Tryd.prog 12 #[] w' fun (e : Ending) (w' : World) =>
 ∃ (x : Bool),
 e = Ending.returned (Value.bool x) ∧
 ∃ (x_15 : ByteArray),
 ∃ (x_16 : ByteArray),
 ∃ (x_17 : Int),
 ∃ (x_18 : Int),
 ∃ (p : Option Addr),
 ∃ (n : Nat),
 ∃ (c : Nat),
 gimp x
 (AtL w' n_6 0
 [Value.string x_15, Value.string x_16,
 Value.int IntKind.i64 x_17, Value.int IntKind.i64 x_18,
 Value.slice p n c]) ∧
 bsp x
 (CallsS Tryd.prog 13
 #[Value.agg
 #[Value.string x_15, Value.string x_16,
 Value.int IntKind.i64 x_17,
 Value.int IntKind.i64 x_18, Value.slice p n c]]
 w' fun (e : Ending) (w' : World) =>
 ∃ (x : Int),
 e = Ending.returned (Value.int IntKind.i64 x) ∧
 R (Ending.returned (Value.bool (true && x_14 == x)))
 w')
 (R (Ending.returned (Value.bool false)) w'))
 (∃ (f : Nat → Int),
 ∃ (p : Option Addr),
 ∃ (n_8 : Nat),
 ∃ (c : Nat),
 ∃ (x_15 : ByteArray),
 ∃ (x_16 : Int),
 ∃ (x_17 : Bool),
 ∃ (x_18 : ByteArray),
 ∃ (x_19 : Int),
 AtL w' n 0
 (arrI IntKind.u8 f 32 0 ++ [Value.slice p n_8 c, Value.string x_15,
 Value.int IntKind.i64 x_16, Value.bool x_17,
 Value.string x_18, Value.int IntKind.i64 x_19]) ∧
 CallsS Tryd.prog 14
 #[Value.agg
 (arrI IntKind.u8 f 32 0 ++ [Value.slice p n_8 c,
 Value.string x_15, Value.int IntKind.i64 x_16,
 Value.bool x_17, Value.string x_18,
 Value.int IntKind.i64 x_19]).toArray]
 w' fun (e : Ending) (w' : World) =>
 ∃ (f : Nat → Int),
 ∃ (p : Option Addr),
 ∃ (n : Nat),
 ∃ (c : Nat),
 ∃ (x_20 : ByteArray),
 ∃ (x_21 : Int),
 ∃ (x_22 : Bool),
 ∃ (x_23 : ByteArray),
 ∃ (x_24 : Int),
 ∃ (f_1 : Nat → Int),
 ∃ (p_2 : Option Addr),
 ∃ (n_9 : Nat),
 ∃ (c_2 : Nat),
 ∃ (x_25 : ByteArray),
 ∃ (x_26 : Int),
 ∃ (x_27 : Bool),
 ∃ (x_28 : ByteArray),
 ∃ (x_29 : Int),
 e =
 Ending.returned
 (Value.tuple
 #[Value.agg
 (arrI IntKind.u8 f 32 0 ++ [Value.slice p n c,
 Value.string x_20,
 Value.int IntKind.i64 x_21,
 Value.bool x_22,
 Value.string x_23,
 Value.int IntKind.i64 x_24]).toArray,
 Value.agg
 (arrI IntKind.u8 f_1 32 0 ++ [Value.slice p_2 n_9 c_2,
 Value.string x_25,
 Value.int IntKind.i64 x_26,
 Value.bool x_27,
 Value.string x_28,
 Value.int IntKind.i64 x_29]).toArray]) ∧
 ∀ (n_10 : Nat) (w1 : World),
 NewB w'
 (Obj.cells
 #[Value.int IntKind.u8 0,
 Value.int IntKind.u8 0,
 Value.int IntKind.u8 0,
 Value.int IntKind.u8 0,
 Value.int IntKind.u8 0,
 Value.int IntKind.u8 0,
 Value.int IntKind.u8 0,
 Value.int IntKind.u8 0,
 Value.int IntKind.u8 0,
 Value.int IntKind.u8 0,
 Value.int IntKind.u8 0,
 Value.int IntKind.u8 0,
 Value.int IntKind.u8 0,
 Value.int IntKind.u8 0,
 Value.int IntKind.u8 0,
 Value.int IntKind.u8 0,
 Value.int IntKind.u8 0,
 Value.int IntKind.u8 0,
 Value.int IntKind.u8 0,
 Value.int IntKind.u8 0,
 Value.int IntKind.u8 0,
 Value.int IntKind.u8 0,
 Value.int IntKind.u8 0,
 Value.int IntKind.u8 0,
 Value.int IntKind.u8 0,
 Value.int IntKind.u8 0,
 Value.int IntKind.u8 0,
 Value.int IntKind.u8 0,
 Value.int IntKind.u8 0,
 Value.int IntKind.u8 0,
 Value.int IntKind.u8 0,
 Value.int IntKind.u8 0,
 Value.slice none 0 0,
 Value.string (ByteArray.mk #[]),
 Value.int IntKind.i64 0,
 Value.bool false,
 Value.string (ByteArray.mk #[]),
 Value.int IntKind.i64 0]
 39)
 n_10 w1 →
 ∀ (n_11 : Nat) (w1_4 : World),
 NewB w1
 (Obj.cells
 #[Value.int IntKind.u8 0,
 Value.int IntKind.u8 0,
 Value.int IntKind.u8 0,
 Value.int IntKind.u8 0,
 Value.int IntKind.u8 0,
 Value.int IntKind.u8 0,
 Value.int IntKind.u8 0,
 Value.int IntKind.u8 0,
 Value.int IntKind.u8 0,
 Value.int IntKind.u8 0,
 Value.int IntKind.u8 0,
 Value.int IntKind.u8 0,
 Value.int IntKind.u8 0,
 Value.int IntKind.u8 0,
 Value.int IntKind.u8 0,
 Value.int IntKind.u8 0,
 Value.int IntKind.u8 0,
 Value.int IntKind.u8 0,
 Value.int IntKind.u8 0,
 Value.int IntKind.u8 0,
 Value.int IntKind.u8 0,
 Value.int IntKind.u8 0,
 Value.int IntKind.u8 0,
 Value.int IntKind.u8 0,
 Value.int IntKind.u8 0,
 Value.int IntKind.u8 0,
 Value.int IntKind.u8 0,
 Value.int IntKind.u8 0,
 Value.int IntKind.u8 0,
 Value.int IntKind.u8 0,
 Value.int IntKind.u8 0,
 Value.int IntKind.u8 0,
 Value.slice none 0 0,
 Value.string (ByteArray.mk #[]),
 Value.int IntKind.i64 0,
 Value.bool false,
 Value.string (ByteArray.mk #[]),
 Value.int IntKind.i64 0]
 27)
 n_11 w1_4 →
 WrL w1_4 n_10 0 38 ∧
 ∀ (w1 : World),
 PutB w1_4 n_10 0
 (arrI IntKind.u8 f 32 0 ++ [Value.slice p n c,
 Value.string x_20,
 Value.int IntKind.i64 x_21,
 Value.bool x_22,
 Value.string x_23,
 Value.int IntKind.i64 x_24])
 w1 →
 WrL w1 n_11 0 38 ∧
 ∀ (w1_5 : World),
 PutB w1 n_11 0
 (arrI IntKind.u8 f_1 32 0 ++ [Value.slice p_2 n_9 c_2,
 Value.string x_25,
 Value.int IntKind.i64 x_26,
 Value.bool x_27,
 Value.string x_28,
 Value.int IntKind.i64 x_29])
 w1_5 →
 ∃ (x_30 : ByteArray),
 ∃ (x_31 : ByteArray),
 ∃ (x_32 : Int),
 ∃ (x_33 : Int),
 ∃ (p : Option Addr),
 ∃ (n : Nat),
 ∃ (c : Nat),
 AtL w1_5 n_6 0
 [Value.string x_30,
 Value.string x_31,
 Value.int
 IntKind.i64 x_32,
 Value.int
 IntKind.i64 x_33,
 Value.slice p n
 c] ∧
 ∃ (f : Nat → Int),
 ∃ (p_3 :
 Option Addr),
 ∃ (n_12 : Nat),
 ∃ (c_3 : Nat),
 ∃ (x_34 :
 ByteArray),
 ∃ (x_35 : Int),
 ∃ (x_36 :
 Bool),
 ∃ (x_37 :
 ByteArray),
 ∃ (x_38 :
 Int),
 AtL w1_5
 n_11 0
 (arrI IntKind.u8 f 32 0 ++ [Value.slice
 p_3 n_12
 c_3,
 Value.string
 x_34,
 Value.int
 IntKind.i64
 x_35,
 Value.bool
 x_36,
 Value.string
 x_37,
 Value.int
 IntKind.i64
 x_38]) ∧
 CallsS
 Tryd.prog
 15
 #[Value.agg
 #[Value.string
 x_30,
 Value.string
 x_31,
 Value.int
 IntKind.i64
 x_32,
 Value.int
 IntKind.i64
 x_33,
 Value.slice
 p n
 c],
 Value.agg
 (arrI IntKind.u8 f 32 0 ++ [Value.slice
 p_3
 n_12
 c_3,
 Value.string
 x_34,
 Value.int
 IntKind.i64
 x_35,
 Value.bool
 x_36,
 Value.string
 x_37,
 Value.int
 IntKind.i64
 x_38]).toArray]
 w1_5
 fun
 (e :
 Ending)
 (w' :
 World) =>
 ∃ (x_39 :
 Int),
 e =
 Ending.returned
 (Value.int
 IntKind.i64
 x_39) ∧
 ∃ (f :
 Nat →
 Int),
 ∃ (p :
 Option
 Addr),
 ∃ (n :
 Nat),
 ∃ (c
 :
 Nat),
 ∃
 (x_40
 :
 ByteArray),
 ∃
 (x_41
 :
 Int),
 ∃
 (x_42
 :
 Bool),
 ∃
 (x_43
 :
 ByteArray),
 ∃
 (x_44
 :
 Int),
 AtL
 w'
 n_10
 0
 (arrI IntKind.u8 f 32 0 ++ [Value.slice
 p
 n
 c,
 Value.string
 x_40,
 Value.int
 IntKind.i64
 x_41,
 Value.bool
 x_42,
 Value.string
 x_43,
 Value.int
 IntKind.i64
 x_44]) ∧
 CallsS
 Tryd.prog
 16
 #[Value.pointer
 x,
 Value.agg
 (arrI IntKind.u8 f 32 0 ++ [Value.slice
 p
 n
 c,
 Value.string
 x_40,
 Value.int
 IntKind.i64
 x_41,
 Value.bool
 x_42,
 Value.string
 x_43,
 Value.int
 IntKind.i64
 x_44]).toArray]
 w'
 fun
 (e :
 Ending)
 (w' :
 World) =>
 ∃
 (x_45
 :
 Int),
 ∃
 (x_46
 :
 Bool),
 e =
 Ending.returned
 (Value.tuple
 #[Value.int
 IntKind.i64
 x_45,
 Value.bool
 x_46]) ∧
 ∃
 (f
 :
 Nat →
 Int),
 ∃
 (p
 :
 Option
 Addr),
 ∃
 (n
 :
 Nat),
 ∃
 (c
 :
 Nat),
 ∃
 (x_47
 :
 ByteArray),
 ∃
 (x_48
 :
 Int),
 ∃
 (x_49
 :
 Bool),
 ∃
 (x_50
 :
 ByteArray),
 ∃
 (x_51
 :
 Int),
 AtL
 w'
 n_10
 0
 (arrI IntKind.u8 f 32 0 ++ [Value.slice
 p
 n
 c,
 Value.string
 x_47,
 Value.int
 IntKind.i64
 x_48,
 Value.bool
 x_49,
 Value.string
 x_50,
 Value.int
 IntKind.i64
 x_51]) ∧
 CallsS
 Tryd.prog
 17
 #[Value.pointer
 x,
 Value.agg
 (arrI IntKind.u8 f 32 0 ++ [Value.slice
 p
 n
 c,
 Value.string
 x_47,
 Value.int
 IntKind.i64
 x_48,
 Value.bool
 x_49,
 Value.string
 x_50,
 Value.int
 IntKind.i64
 x_51]).toArray]
 w'
 fun
 (e :
 Ending)
 (w' :
 World) =>
 ∃
 (x
 :
 Int),
 e =
 Ending.returned
 (Value.int
 IntKind.i64
 x) ∧
 bsp
 (x !=
 x_39 ||
 !x_46 ==
 (x_39 ==
 0))
 (R
 (Ending.returned
 (Value.bool
 false))
 w')
 (CallsS
 Tryd.prog
 12
 #[]
 w'
 fun
 (e :
 Ending)
 (w' :
 World) =>
 ∃
 (x
 :
 Bool),
 e =
 Ending.returned
 (Value.bool
 x) ∧
 ∃
 (x_52
 :
 ByteArray),
 ∃
 (x_53
 :
 ByteArray),
 ∃
 (x_54
 :
 Int),
 ∃
 (x_55
 :
 Int),
 ∃
 (p
 :
 Option
 Addr),
 ∃
 (n
 :
 Nat),
 ∃
 (c
 :
 Nat),
 gimp
 (x &&
 x_46)
 (AtL
 w'
 n_6
 0
 [Value.string
 x_52,
 Value.string
 x_53,
 Value.int
 IntKind.i64
 x_54,
 Value.int
 IntKind.i64
 x_55,
 Value.slice
 p
 n
 c]) ∧
 ∃
 (f
 :
 Nat →
 Int),
 ∃
 (p_4
 :
 Option
 Addr),
 ∃
 (n_13
 :
 Nat),
 ∃
 (c_4
 :
 Nat),
 ∃
 (x_56
 :
 ByteArray),
 ∃
 (x_57
 :
 Int),
 ∃
 (x_58
 :
 Bool),
 ∃
 (x_59
 :
 ByteArray),
 ∃
 (x_60
 :
 Int),
 gimp
 (x &&
 x_46)
 (AtL
 w'
 n_11
 0
 (arrI IntKind.u8 f 32 0 ++ [Value.slice
 p_4
 n_13
 c_4,
 Value.string
 x_56,
 Value.int
 IntKind.i64
 x_57,
 Value.bool
 x_58,
 Value.string
 x_59,
 Value.int
 IntKind.i64
 x_60])) ∧
 bsp
 x
 (bsp
 x_46
 (CallsS
 Tryd.prog
 18
 #[Value.agg
 #[Value.string
 x_52,
 Value.string
 x_53,
 Value.int
 IntKind.i64
 x_54,
 Value.int
 IntKind.i64
 x_55,
 Value.slice
 p
 n
 c],
 Value.agg
 (arrI IntKind.u8 f 32 0 ++ [Value.slice
 p_4
 n_13
 c_4,
 Value.string
 x_56,
 Value.int
 IntKind.i64
 x_57,
 Value.bool
 x_58,
 Value.string
 x_59,
 Value.int
 IntKind.i64
 x_60]).toArray]
 w'
 fun
 (e :
 Ending)
 (w' :
 World) =>
 ∃
 (x
 :
 Int),
 e =
 Ending.returned
 (Value.int
 IntKind.i64
 x) ∧
 R
 (Ending.returned
 (Value.bool
 (true &&
 (true &&
 x_45 ==
 x ||
 !x_46 &&
 x_45 ==
 0))))
 w')
 (R
 (Ending.returned
 (Value.bool
 (true &&
 (false ||
 !x_46 &&
 x_45 ==
 0))))
 w'))
 (R
 (Ending.returned
 (Value.bool
 false))
 w')))
theorem vc_reasons (nb : ByteArray) (ps : ByteArray) (mb : Int) (dl : Int) (p : Option Addr) (n : Nat) (c : Nat) (a : Array Value) (w : World) (R : Ending → World → Prop) (h : VC_reasons nb ps mb dl p n c a w R) : Calls Tryd.prog 3 ([Value.agg
    #[Value.string nb, Value.string ps, Value.int IntKind.i64 mb, Value.int IntKind.i64 dl, Value.slice p n c],
  Value.agg a] : List Value).toArray w R := by
  have e : execR { P := Tryd.prog, loops := [], pur := pur1, tails := [], joins := [], boxes := [] } Tryd.f3.results.toList R (Tryd.f3.body.getD .skip) (initF [Value.agg
    #[Value.string nb, Value.string ps, Value.int IntKind.i64 mb, Value.int IntKind.i64 dl, Value.slice p n c],
  Value.agg
    a] (Tryd.f3.ntmps - ([Value.agg
    #[Value.string nb, Value.string ps, Value.int IntKind.i64 mb, Value.int IntKind.i64 dl, Value.slice p n c],
  Value.agg a] : List Value).length)) w = VC_reasons nb ps mb dl p n c a w R := by kernel_rfl
  have hb : Tryd.f3.body = some (Tryd.f3.body.getD .skip) := by kernel_rfl
  exact calls_of_exec' (P := Tryd.prog) (fn := Tryd.f3) (c := Tryd.f3.body.getD .skip) (args := [Value.agg
    #[Value.string nb, Value.string ps, Value.int IntKind.i64 mb, Value.int IntKind.i64 dl, Value.slice p n c],
  Value.agg a]) (w := w) (R := R) pur1_ok Tryd.func3 hb e h

end Go.Proofs.YtcpjajjocmpkjaaDoor

/- The statement FeedruleReasons on worlds: it returns true and leaves what was there as it was. Strings have at most 2^47 bytes. -/
namespace Go.Proofs.YtcpjajjocmpkjaaDoor
open Go.RowKit

theorem chk_dl {nb ps : ByteArray} {mb dl : Int} {ds : List ByteArray} {es : List Ent} (hL : listR ps = .inl es) (h0 : chkS nb ps mb dl ds = 0) : 0 ≤ dl ∧ dl ≤ 20160 := by
  unfold chkS at h0
  split at h0
  · rename_i h; exact absurd h0 h
  · rw [hL] at h0
    simp only at h0
    split at h0
    · cases h0
    · rename_i h; omega
set_option maxHeartbeats 1000000 in
theorem reasons_any (nb ps : ByteArray) (mb dl : Int) (p : Option Addr) (c : Nat) (ds : List ByteArray) (x : It) (q : Option Addr) (cx : Nat) (w : World) (hG : GW w) (hds : StrP w p ds) (hdz : ∀ z ∈ ds, z.size ≤ 9223372036854775807) (hg : StrP w q x.gs) (hc : x.gs.length ≤ cx) (hx : ∀ z ∈ x.gs, z.size ≤ 140737488355328) (har : -9223372036854775808 ≤ x.ar ∧ x.ar ≤ 9223372036854775807) :
    Calls Tryd.prog 3 #[.agg #[.string nb, .string ps, .int .i64 mb, .int .i64 dl, .slice p ds.length c], .agg (x.cells q cx)] w fun e w' => e = .returned (.bool true) ∧ K0 w w' := by
  refine vc_reasons nb ps mb dl p ds.length c (x.cells q cx) w _ ?_
  intro n1 w1 hn1 n w2 hn
  have k2 : K0 w w2 := (hn1.kp _).trans (hn.kp _)
  have b1 := (hn.kp (fun _ => False)).blk hn1.block (fun h => h)
  refine ⟨nb, ps, mb, dl, p, ds.length, c, AtL_block b1 rfl, ⟨(to_any nb ps mb dl p c ds w2 (hds.kp k2 (fun _ _ _ h => h))).mono fun e w3 he => ?_⟩⟩
  obtain ⟨p1, p2, c1, c2, he, ho1, ho2, hne, hk3⟩ := he
  refine ⟨_, _, _, _, _, _, _, _, _, _, _, _, _, _, he, fun n5 w4 hn4 n6 w5 hn5 => ?_⟩
  have k35 := (hn4.kp (fun _ => False)).trans (hn5.kp (fun _ => False))
  have b54 := (hn5.kp (fun _ => False)).blk hn4.block (fun h => h)
  have g5 : w3.heap.size ≤ n5 := hn4.ge
  have g6 : n5 < n6 := by have := hn4.size; have := hn5.ge; omega
  refine ⟨WrL_block b54 (by simp), fun w6 hp6 => ?_⟩
  have b56 := hp6.full b54 rfl
  have b66 := hp6.kp.blk hn5.block (fun e => by omega)
  refine ⟨WrL_block b66 (by simp), fun w7 hp7 => ?_⟩
  have b57 := hp7.kp.blk b56 (fun e => by omega)
  have b67 := hp7.full b66 rfl
  have k37 : K0 w3 w7 := (k35.fresh hp6.kp (fun i hi e => by omega)).fresh hp7.kp (fun i hi e => by omega)
  have k7 : K0 w w7 := (k2.trans hk3).trans k37
  generalize hnb : nb.extract 0 (min nb.size 40) = nb' at *
  generalize hps : ps.extract 0 (min ps.size 300) = ps' at *
  have hps' : ps'.size ≤ 300 := by rw [← hps, ByteArray.size_extract]; omega
  have hd10 : (ds.take 10).length ≤ 10 := by rw [List.length_take]; omega
  have hdz' : ∀ z ∈ ds.take 10, z.size ≤ 9223372036854775807 := fun z hz => hdz z (List.mem_of_mem_take hz)
  generalize ds.take 10 = ds' at *
  obtain ⟨_, hc1, hs1, _, _⟩ := own_strP (owns_kp ho1 k37 (fun _ _ h => h))
  obtain ⟨_, hc2, hs2, _, _⟩ := own_strP (owns_kp ho2 k37 (fun _ _ h => h))
  refine ⟨nb', ps', mb, dl, p1, ds'.length, c1, AtL_block b57 rfl, ⟨(fcompile_any nb' ps' mb dl p1 c1 ds' w7 (by omega) (hG.kp k7 (fun h => h)) hs1 hc1 (by omega)).mono fun e w8 ⟨hk8, he⟩ => ?_⟩⟩
  have k8 : K0 w w8 := k7.trans hk8
  have gw8 := hG.kp k8 (fun h => h)
  rcases he with ⟨h0, he⟩ | ⟨h0, b, es, hL, he, hf⟩
  · refine ⟨_, _, he, bsp_intro (fun _ => ?_) (fun h => ?_)⟩
    · refine ⟨(known_any w8 gw8).mono fun e w9 ⟨he, hk9⟩ => ⟨_, he, nb', ps', mb, dl, p2, ds'.length, c2, gimp_intro fun _ => AtL_block ((hk8.trans hk9).blk b67 (fun h => h)) rfl, bsp_intro (fun _ => ?_) (fun h => absurd h (by decide))⟩⟩
      refine ⟨(rcheck_any nb' ps' mb dl p2 c2 ds' w9 (by omega) (hs2.kp (hk8.trans hk9) (fun _ _ _ h => h)) hc2 (by omega) hdz').mono fun e wa ⟨he, hka⟩ => ⟨_, he, ?_, (k8.trans hk9).trans hka⟩⟩
      simp
    · exfalso; simp at h
  refine ⟨_, _, he, bsp_intro (fun h => absurd h (by simp)) (fun _ => ?_)⟩
  obtain ⟨h64, h80⟩ := listR_ok hL
  have hdlb := chk_dl hL h0
  have bn8 : w8.heap[n]? = some (.cells (x.cells q cx) 27 (0, 0)) := ((hk3.trans k37).trans hk8).blk hn.block (fun h => h)
  refine ⟨x.id, q, x.gs.length, cx, x.d, x.by_, x.ct, x.fr, x.ar, AtL_block bn8 rfl, ⟨(item_any x q cx w8 (hg.kp k8 (fun _ _ _ h => h)) hc).mono fun e w9 he => ?_⟩⟩
  obtain ⟨q1, q2, d1, d2, he, hr1, hr2, hk9⟩ := he
  refine ⟨_, _, _, _, _, _, _, _, _, _, _, _, _, _, _, _, _, _, he, fun n10 wa hna n11 wb hnb' => ?_⟩
  have ga : w9.heap.size ≤ n10 := hna.ge
  have gb : n10 < n11 := by have := hna.size; have := hnb'.ge; omega
  have b10b := (hnb'.kp (fun _ => False)).blk hna.block (fun h => h)
  refine ⟨WrL_block b10b (by simp), fun wc hpc => ?_⟩
  have b10c : wc.heap[n10]? = some (.cells (x.cut.cells q1 d1) 39 (0, 0)) := hpc.full b10b rfl
  have b11c := hpc.kp.blk hnb'.block (fun e => by omega)
  refine ⟨WrL_block b11c (by simp), fun wd hpd => ?_⟩
  have b11d : wd.heap[n11]? = some (.cells (x.cut.cells q2 d2) 27 (0, 0)) := hpd.full b11c rfl
  have b10d := hpd.kp.blk b10c (fun e => by omega)
  have k9d : K0 w9 wd := (((hna.kp (fun _ => False)).trans (hnb'.kp _)).fresh hpc.kp (fun i hi e => by omega)).fresh hpd.kp (fun i hi e => by omega)
  clear hna hnb' b10b hpc b10c b11c hpd
  have hxg : ∀ z ∈ x.cut.gs, z.size ≤ 140737488355328 := fun z hz => hx z (List.mem_of_mem_take hz)
  have hxl : x.cut.gs.length ≤ 20 := by show (x.gs.take 20).length ≤ 20; rw [List.length_take]; omega
  have hxok : x.cut.ok := ⟨by omega, fun z hz => by have := hxg z hz; omega⟩
  obtain ⟨_, _, hsq1, _, _⟩ := own_strP hr1
  obtain ⟨_, _, hsq2, _, _⟩ := own_strP hr2
  have k8d : K0 w8 wd := hk9.trans k9d
  have b6d := (hk8.trans k8d).blk b67 (fun h => h)
  refine ⟨nb', ps', mb, dl, p2, ds'.length, c2, AtL_block b6d rfl, x.cut.id, q2, x.cut.gs.length, d2, x.cut.d, x.cut.by_, x.cut.ct, x.cut.fr, x.cut.ar, AtL_block b11d rfl, ?_⟩
  refine ⟨(rreason_any nb' ps' mb dl p2 c2 ds' x.cut q2 d2 es wd (by omega) hL (hs2.kp (hk8.trans k8d) (fun _ _ _ h => h)) (by omega) (hsq2.kp k9d (fun _ _ _ h => h)) (by omega) hxg).mono fun e we ⟨he, hke⟩ => ⟨_, he, ?_⟩⟩
  have k9e := k9d.trans hke
  have b10e := hke.blk b10d (fun h => h)
  refine ⟨x.cut.id, q1, x.cut.gs.length, d1, x.cut.d, x.cut.by_, x.cut.ct, x.cut.fr, x.cut.ar, AtL_block b10e rfl, ?_⟩
  refine ⟨(due_any (x := x.cut) (p := q1) (c := d1) (hf.kp (hk9.trans k9e) (fun _ _ _ h => h)) (hsq1.kp k9e (fun _ _ _ h => h)) h64 h80 (by omega) hxok hdlb har).mono fun e wf ⟨he, hkf⟩ => ?_⟩
  have k9f := k9e.trans hkf
  have b10f := hkf.blk b10e (fun h => h)
  generalize hrs : rsnS nb' mb ds' es x.cut = rs at *
  have fin : ∀ (due : Int) (is : Bool), e = .returned (.tuple #[.int .i64 due, .bool is]) → (is = true → due = dueS dl x.cut.ar ∧ rs = 0) → (is = false → due = 0 ∧ rs ≠ 0) → (∃ (x_45 : Int) (x_46 : Bool), e = .returned (.tuple #[.int .i64 x_45, .bool x_46]) ∧ x_45 = due ∧ x_46 = is) := fun due is he _ _ => ⟨due, is, he, rfl, rfl⟩
  have hdue : ∃ (due : Int) (is : Bool), e = .returned (.tuple #[.int .i64 due, .bool is]) ∧ (is = true → due = dueS dl x.cut.ar ∧ rs = 0) ∧ (is = false → due = 0 ∧ rs ≠ 0) := by
    by_cases h : rs = 0
    · rw [if_pos h] at he
      exact ⟨_, _, he, fun _ => ⟨rfl, h⟩, (fun h => by cases h)⟩
    · rw [if_neg h] at he
      exact ⟨_, _, he, (fun h => by cases h), fun _ => ⟨rfl, h⟩⟩
  clear fin
  obtain ⟨due, is, he, hi1, hi2⟩ := hdue
  refine ⟨due, is, he, x.cut.id, q1, x.cut.gs.length, d1, x.cut.d, x.cut.by_, x.cut.ct, x.cut.fr, x.cut.ar, AtL_block b10f rfl, ?_⟩
  refine ⟨(reason_any (x := x.cut) (p := q1) (c := d1) (hf.kp (hk9.trans k9f) (fun _ _ _ h => h)) (hsq1.kp k9f (fun _ _ _ h => h)) h64 h80 (by omega) hxok).mono fun e wg ⟨he, hkg⟩ => ⟨_, he, ?_⟩⟩
  rw [hrs]
  have k9g := k9f.trans hkg
  have k8g : K0 w8 wg := hk9.trans k9g
  refine bsp_intro (fun h => ?_) (fun _ => ?_)
  · exfalso
    cases is with
    | true => obtain ⟨_, h0⟩ := hi1 rfl; subst h0; simp at h
    | false =>
      obtain ⟨_, h0⟩ := hi2 rfl
      have : (rs == 0) = false := by simpa using h0
      rw [this] at h
      simp at h
  refine ⟨(known_any wg (hG.kp (k8.trans k8g) (fun h => h))).mono fun e wh ⟨he, hkh⟩ => ⟨_, he, ?_⟩⟩
  have k8h := k8g.trans hkh
  have b6h := (hk8.trans k8h).blk b67 (fun h => h)
  have b11h := ((hke.trans hkf).trans (hkg.trans hkh)).blk b11d (fun h => h)
  refine ⟨nb', ps', mb, dl, p2, ds'.length, c2, gimp_intro fun _ => AtL_block b6h rfl, x.cut.id, q2, x.cut.gs.length, d2, x.cut.d, x.cut.by_, x.cut.ct, x.cut.fr, x.cut.ar, gimp_intro fun _ => AtL_block b11h rfl, bsp_intro (fun _ => ?_) (fun h => absurd h (by decide))⟩
  refine bsp_intro (fun hi => ?_) (fun hi => ⟨?_, k8.trans k8h⟩)
  · refine ⟨(rdue_any nb' ps' mb dl p2 ds'.length c2 x.cut q2 d2 wh hdlb har).mono fun e wi ⟨he, hki⟩ => ⟨_, he, ?_, (k8.trans k8h).trans hki⟩⟩
    rw [(hi1 hi).1]
    simp
  · rw [(hi2 hi).1, hi]
    simp

end Go.Proofs.YtcpjajjocmpkjaaDoor

/- The statement FeedruleChecks on worlds: it returns true and leaves what was there as it was. -/
namespace Go.Proofs.YtcpjajjocmpkjaaDoor
open Go.RowKit

/-- An element of a row is written. -/
theorem own_put {w : World} {base : Nat} {e : TypeId} {n c : Nat} {p : Option Addr} {xs : List Value} (h : w.ownsRow base e 1 (.slice p n c) n xs) {k : Nat} (hk : k < n) :
    ∃ g, p = some ⟨g, 0, none⟩ ∧ (Value.slice p n c).ownBlock = some g ∧ ((∃ u, w.cell? ⟨g, 0 + k, none⟩ = some u) ∧ w.frozen? ⟨g, 0 + k, none⟩ = false) ∧
      ∀ (v : Value) (w1 : World), PutB w g (0 + k) [v] w1 → w1.ownsRow base e 1 (.slice p n c) n (xs.set k v) := by
  have hl := h.1
  rcases h.2 with ⟨_, hn⟩ | ⟨g, cap, cur, he, hb, hg, hnc, hcm, hsz, ht⟩
  · omega
  · simp only [Value.slice.injEq, true_and] at he
    obtain ⟨rfl, rfl⟩ := he
    have hkc : k < cur.size := by rw [hsz]; omega
    refine ⟨g, rfl, rfl, by rw [Nat.zero_add]; exact cell_wr hg hkc, fun v w1 hp => ⟨by rw [List.length_set]; exact hl, .inr ⟨g, _, _, rfl, hb, hp.block hg, hnc, hcm, ?_, ?_⟩⟩⟩
    · simp only [putL, Nat.zero_add, List.size_toArray, List.length_set, Array.length_toList]; exact hsz
    · simp only [putL, Nat.zero_add]
      rw [← ht, List.take_set]
theorem FeedR.mono {D D' : Nat → Prop} {w : World} {b : Nat} {nb ps : ByteArray} {mb dl : Int} {ds : List ByteArray} {es : List Ent} (h : FeedR D w b nb ps mb dl ds es) (hd : ∀ k, D k → k < w.heap.size → D' k) : FeedR D' w b nb ps mb dl ds es := by
  obtain ⟨p, n, c, lb, h1, h2, h3, h4, h5, h6, h7⟩ := h
  exact ⟨p, n, c, lb, h1, hd b h2 (block_lt h1), h3, h4, fun k o e => ⟨hd k (h5 k o e).1 (h5 k o e).2, (h5 k o e).2⟩, h6, h7.mono hd⟩

theorem frule_any {D : Nat → Prop} {w : World} {b : Nat} {nb ps : ByteArray} {mb dl : Int} {ds : List ByteArray} {es : List Ent} (hf : FeedR D w b nb ps mb dl ds es) (hl : ds.length ≤ 1073741824) :
    Calls Tryd.prog 25 #[.pointer (some ⟨b, 0, none⟩)] w fun e w' => ∃ p' c', e = .returned (.agg #[.string nb, .string ps, .int .i64 mb, .int .i64 dl, .slice p' ds.length c']) ∧
      w'.ownsRow w.heap.size 9 1 (.slice p' ds.length c') ds.length (ds.map Value.string) ∧ K0 w w' := by
  obtain ⟨p, n, c, lb, h1, h2, h3, h4, h5, h6, h7⟩ := hf
  subst h3
  refine vc_frule b 0 w _ ?_
  intro n1 w1 hn1
  have k1 : K0 w w1 := hn1.kp _
  refine ⟨nb, ps, mb, dl, p, ds.length, c, AtL_block (k1.blk h1 (fun h => h)) rfl, fun n2 w2 hn2 => ⟨WrL_block hn2.block (by simp), fun w3 hp3 => ?_⟩⟩
  have g1 : w.heap.size ≤ n1 := hn1.ge
  have g2 : n1 < n2 := by have := hn1.size; have := hn2.ge; omega
  have b23 := hp3.full hn2.block rfl
  have b13 := hp3.kp.blk ((hn2.kp (fun _ => False)).blk hn1.block (fun h => h)) (fun e => by omega)
  have k3 : K0 w w3 := (k1.trans (hn2.kp _)).fresh hp3.kp (fun i hi e => by omega)
  refine ⟨p, ds.length, c, cell_at b23 rfl, ⟨(clone_any p c ds w3 (h4.kp k3 (fun _ _ _ h => h)) hl).mono fun e w4 ⟨p', c', he, ho, hk4⟩ => ⟨_, _, _, he, ?_⟩⟩⟩
  have b24 := hk4.blk b23 (fun h => h)
  have b14 := hk4.blk b13 (fun h => h)
  have l2 : n2 < w3.heap.size := block_lt b23
  refine ⟨cell_wr b24 (by simp), fun w5 hp5 => ?_⟩
  have b25 : w5.heap[n2]? = some (.cells #[.string nb, .string ps, .int .i64 mb, .int .i64 dl, .slice p' ds.length c'] 28 (0, 0)) := hp5.block b24
  have b15 := hp5.kp.blk b14 (fun e => by omega)
  refine ⟨_, _, _, _, _, _, _, AtL_block b25 rfl, WrL_block b15 (by simp), fun w6 hp6 => ?_⟩
  have b16 := hp6.full b15 rfl
  refine ⟨_, _, _, _, _, _, _, AtL_block b16 rfl, p', c', rfl, ?_, ?_⟩
  · exact own_base (owns_kp (owns_kp ho hp5.kp (fun k hk e => by have := own_ge ho hk; omega)) hp6.kp (fun k hk e => by have := own_ge ho hk; omega)) k3.size
  · exact ((k3.trans hk4).fresh hp5.kp (fun i hi e => by omega)).fresh hp6.kp (fun i hi e => by omega)

set_option maxHeartbeats 2000000 in
theorem checks_any (nb ps : ByteArray) (mb dl : Int) (p : Option Addr) (c : Nat) (ds : List ByteArray) (w : World) (hG : GW w) (hds : StrP w p ds) (hdz : ∀ z ∈ ds, z.size ≤ 9223372036854775807) :
    Calls Tryd.prog 7 #[.agg #[.string nb, .string ps, .int .i64 mb, .int .i64 dl, .slice p ds.length c]] w fun e w' => e = .returned (.bool true) ∧ K0 w w' := by
  refine vc_checks nb ps mb dl p ds.length c w _ ?_
  intro n1 w2 hn1
  have k2 : K0 w w2 := hn1.kp _
  refine ⟨nb, ps, mb, dl, p, ds.length, c, AtL_block hn1.block rfl, ⟨(to_any nb ps mb dl p c ds w2 (hds.kp k2 (fun _ _ _ h => h))).mono fun e w3 he => ?_⟩⟩
  obtain ⟨p1, p2, c1, c2, he, ho1, ho2, hne, hk3⟩ := he
  refine ⟨_, _, _, _, _, _, _, _, _, _, _, _, _, _, he, fun n3 w4 hn4 n4 w5 hn5 => ?_⟩
  have k35 := (hn4.kp (fun _ => False)).trans (hn5.kp (fun _ => False))
  have b54 := (hn5.kp (fun _ => False)).blk hn4.block (fun h => h)
  have g5 : w3.heap.size ≤ n3 := hn4.ge
  have g6 : n3 < n4 := by have := hn4.size; have := hn5.ge; omega
  refine ⟨WrL_block b54 (by simp), fun w6 hp6 => ?_⟩
  have b56 := hp6.full b54 rfl
  have b66 := hp6.kp.blk hn5.block (fun e => by omega)
  refine ⟨WrL_block b66 (by simp), fun w7 hp7 => ?_⟩
  have b57 := hp7.kp.blk b56 (fun e => by omega)
  have b67 := hp7.full b66 rfl
  have k37 : K0 w3 w7 := (k35.fresh hp6.kp (fun i hi e => by omega)).fresh hp7.kp (fun i hi e => by omega)
  have k7 : K0 w w7 := (k2.trans hk3).trans k37
  generalize hnb : nb.extract 0 (min nb.size 40) = nb' at *
  generalize hps : ps.extract 0 (min ps.size 300) = ps' at *
  have hps' : ps'.size ≤ 300 := by rw [← hps, ByteArray.size_extract]; omega
  have hd10 : (ds.take 10).length ≤ 10 := by rw [List.length_take]; omega
  have hdz' : ∀ z ∈ ds.take 10, z.size ≤ 9223372036854775807 := fun z hz => hdz z (List.mem_of_mem_take hz)
  generalize ds.take 10 = ds' at *
  have o17 := owns_kp ho1 k37 (fun _ _ h => h)
  have o27 := owns_kp ho2 k37 (fun _ _ h => h)
  obtain ⟨_, hc1, hs1, _, _⟩ := own_strP o17
  obtain ⟨_, hc2, hs2, _, _⟩ := own_strP o27
  have gx : ∀ k, (Value.slice p1 ds'.length c1).ownBlock = some k → w.heap.size ≤ k ∧ k < w3.heap.size := fun k hk => ⟨Nat.le_trans k2.size (own_ge ho1 hk), own_lt ho1 hk⟩
  have gw : ∀ k, (Value.slice p2 ds'.length c2).ownBlock = some k → k < w3.heap.size := fun k hk => own_lt ho2 hk
  clear hn1 hn4 hn5 hp6 hp7 b54 b56 b66 k35
  refine ⟨nb', ps', mb, dl, p2, ds'.length, c2, AtL_block b67 rfl, ⟨(rcheck_any nb' ps' mb dl p2 c2 ds' w7 (by omega) hs2 hc2 (by omega) hdz').mono fun e w8 ⟨he, hk8⟩ => ⟨_, he, ?_⟩⟩⟩
  refine ⟨nb', ps', mb, dl, p1, ds'.length, c1, AtL_block (hk8.blk b57 (fun h => h)) rfl, ⟨(fcompile_any nb' ps' mb dl p1 c1 ds' w8 (by omega) (hG.kp (k7.trans hk8) (fun h => h)) (hs1.kp hk8 (fun _ _ _ h => h)) hc1 (by omega)).mono fun e w9 ⟨hk9, he⟩ => ?_⟩⟩
  have k79 : K0 w7 w9 := hk8.trans hk9
  have hpe : ∃ (f : Option Addr) (er : Int), e = .returned (.tuple #[.pointer f, .int .i64 er]) ∧ er = chkS nb' ps' mb dl ds' ∧ ((f = none ∧ er ≠ 0) ∨ (er = 0 ∧ ∃ b es, f = some ⟨b, 0, none⟩ ∧ listR ps' = .inl es ∧ FeedR (fun k => w8.heap.size ≤ k) w9 b nb' ps' mb dl ds' es)) := by
    rcases he with ⟨h0, he⟩ | ⟨h0, b, es, hL, he, hf⟩
    · exact ⟨_, _, he, rfl, .inl ⟨rfl, h0⟩⟩
    · exact ⟨_, _, he, h0.symm, .inr ⟨rfl, b, es, rfl, hL, hf⟩⟩
  clear he
  obtain ⟨f, er, he, her, hcase⟩ := hpe
  refine ⟨f, er, he, nb', ps', mb, dl, p1, ds'.length, c1, AtL_block (k79.blk b57 (fun h => h)) rfl, ⟨(check_any nb' ps' mb dl p1 c1 ds' w9 (by omega) (hG.kp (k7.trans k79) (fun h => h)) (hs1.kp k79 (fun _ _ _ h => h)) hc1 (by omega)).mono fun e wa ⟨he, hka⟩ => ⟨_, he, ?_⟩⟩⟩
  rw [← her]
  have k7a : K0 w7 wa := k79.trans hka
  rcases hcase with ⟨rfl, h0⟩ | ⟨h0, b, es, rfl, hL, hf⟩
  · refine bsp_intro (fun h => ?_) (fun _ => ?_)
    · exfalso; simp [h0] at h
    · exact ⟨(known_any wa (hG.kp (k7.trans k7a) (fun h => h))).mono fun e wb ⟨he, hkb⟩ => ⟨_, he, rfl, (k7.trans k7a).trans hkb⟩⟩
  refine bsp_intro (fun h => ?_) (fun _ => bsp_intro (fun h => absurd h (by simp)) (fun _ => ?_))
  · exfalso; simp [h0] at h
  have hfa : FeedR (fun k => w8.heap.size ≤ k ∧ k < wa.heap.size) wa b nb' ps' mb dl ds' es := (hf.kp hka (fun _ _ _ h => h)).mono fun k h1 h2 => ⟨h1, h2⟩
  refine ⟨(frule_any hfa (by omega)).mono fun e wb ⟨py, cy, he, hoy, hkb⟩ => ⟨_, _, _, _, _, _, _, he, fun n5 wc hnc => ⟨WrL_block hnc.block (by simp), fun wd hpd => ?_⟩⟩⟩
  have b5d := hpd.full hnc.block rfl
  have g5' : wb.heap.size ≤ n5 := hnc.ge
  have kbd : K0 wb wd := (hnc.kp (fun _ => False)).fresh hpd.kp (fun i hi e => by omega)
  have kad : K0 wa wd := hkb.trans kbd
  have k7d : K0 w7 wd := k7a.trans kad
  have b4d := k7d.blk b67 (fun h => h)
  have b3d := k7d.blk b57 (fun h => h)
  have oyd := owns_kp hoy kbd (fun _ _ h => h)
  have oxd := owns_kp o17 k7d (fun _ _ h => h)
  have owd := owns_kp o27 k7d (fun _ _ h => h)
  have gy : ∀ k, (Value.slice py ds'.length cy).ownBlock = some k → wa.heap.size ≤ k ∧ k < wb.heap.size := fun k hk => ⟨own_ge hoy hk, own_lt hoy hk⟩
  have s37 := k37.size
  have s7a := k7a.size
  have s78 := hk8.size
  have sab := hkb.size
  have l4 : n4 < w7.heap.size := block_lt b67
  have swd : w.heap.size ≤ w2.heap.size := k2.size
  have sw3 := hk3.size
  refine ⟨py, ds'.length, cy, cell_at b5d rfl, p2, ds'.length, c2, cell_at b4d rfl, nb', gimp_intro fun _ => cell_at b5d rfl, nb', gimp_intro fun _ => cell_at b4d rfl, ps', gimp_intro fun _ => cell_at b5d rfl, ps', gimp_intro fun _ => cell_at b4d rfl, mb, gimp_intro fun _ => cell_at b5d rfl, mb, gimp_intro fun _ => cell_at b4d rfl, dl, gimp_intro fun _ => cell_at b5d rfl, dl, gimp_intro fun _ => cell_at b4d rfl, bsp_intro (fun h => ?_) (fun _ => ?_)⟩
  · exfalso; simp at h
  let M : Nat → Prop := fun i => (Value.slice p1 ds'.length c1).ownBlock = some i ∨ (Value.slice py ds'.length cy).ownBlock = some i
  have hMlt : ∀ i, M i → w.heap.size ≤ i ∧ i < n5 := fun i hi => by
    rcases hi with h | h
    · have := gx i h; omega
    · have := gy i h; have := k7.size; omega
  have kwM : ∀ wx, Kp M wd wx → K0 w wx := fun wx hx => (k7.trans k7d).fresh hx (fun i hi e => by have := hMlt i e; omega)
  refine count1 ds'.length (by omega) (fun k wx => Kp M wd wx ∧ ∃ ys xs : List Value, wx.ownsRow wa.heap.size 9 1 (.slice py ds'.length cy) ds'.length ys ∧ wx.ownsRow w2.heap.size 9 1 (.slice p1 ds'.length c1) ds'.length xs ∧ ∀ j z, k ≤ j → ds'[j]? = some z → ys[j]? = some (.string z)) ⟨.refl _ _, _, _, oyd, oxd, fun j z _ hj => by rw [List.getElem?_map, hj]; rfl⟩ ?_
  rintro I m k wx hk ⟨kx, ys, xs, oy, ox, hys⟩ next
  have b5x : wx.heap[n5]? = some (.cells #[.string nb', .string ps', .int .i64 mb, .int .i64 dl, .slice py ds'.length cy] 28 (0, 0)) := kx.blk b5d (fun e => by have := hMlt _ e; omega)
  have b4x := kx.blk b4d (fun e => by
    rcases e with e | e
    · have := gx _ e; omega
    · have := gy _ e; omega)
  have b3x := kx.blk b3d (fun e => by
    rcases e with e | e
    · have := gx _ e; omega
    · have := gy _ e; omega)
  have owx := owns_kp owd kx (fun i hi e => by
    rcases e with e | e
    · exact hne i e hi
    · have := gy _ e; have := gw _ hi; omega)
  obtain ⟨_, _, hsw, _, _⟩ := own_strP owx
  refine ⟨py, ds'.length, cy, cell_at b5x rfl, bsp_intro (fun hlt => ?_) (fun hge => ?_)⟩
  · have hlt : k < ds'.length := by simpa using hlt
    obtain ⟨z, hz⟩ : ∃ z, ds'[k]? = some z := ⟨_, List.getElem?_eq_getElem hlt⟩
    obtain ⟨gy', rfl, hgy, hwy, hsy⟩ := own_put (show wx.drew.drew.ownsRow _ _ _ _ _ _ from oy) hlt
    obtain ⟨gx', rfl, hgx, hwx, hsx⟩ := own_put ox hlt
    obtain ⟨gw', ow', rfl, hcw⟩ := hsw k z hz
    obtain ⟨gy2, hgy2, hcy⟩ := own_cellL oy (hys k z (Nat.le_refl _) hz)
    simp only [Option.some.injEq, Addr.mk.injEq, and_true] at hgy2
    subst hgy2
    have lx := gx _ hgx
    have ly := gy _ hgy
    rw [Int.toNat_natCast]
    refine ⟨_, ds'.length, cy, cell_at (blk_drew b5x) rfl, ?_⟩
    show (0 ≤ (k : Int) ∧ (k : Int) < (ds'.length : Int)) ∧ _
    refine ⟨by omega, z, by rw [Nat.zero_add]; exact hcy, _, ds'.length, c2, cell_at (blk_drew b4x) rfl, ?_⟩
    show (0 ≤ (k : Int) ∧ (k : Int) < (ds'.length : Int)) ∧ _
    refine ⟨by omega, z, hcw, bsp_intro (fun h => ?_) (fun _ => ?_)⟩
    · exfalso; simp at h
    refine ⟨fun wz => wz.heap[n5]? = some (.cells #[.string nb', .string ps', .int .i64 mb, .int .i64 dl, .slice (some ⟨gy', 0, none⟩) ds'.length cy] 28 (0, 0)) ∧ wz.heap[n3]? = some (.cells #[.string nb', .string ps', .int .i64 mb, .int .i64 dl, .slice (some ⟨gx', 0, none⟩) ds'.length c1] 28 (0, 0)), ⟨blk_drew (blk_drew b5x), blk_drew (blk_drew b3x)⟩, _, ds'.length, cy, fun wz h => cell_at h.1 rfl, _, ds'.length, c1, fun wz h => cell_at h.2 rfl, ?_⟩
    show (0 ≤ (k : Int) ∧ (k : Int) < (ds'.length : Int)) ∧ _
    refine ⟨by omega, hwy, fun we hpe => ⟨⟨hpe.kp.blk (blk_drew (blk_drew b5x)) (fun e => by omega), hpe.kp.blk (blk_drew (blk_drew b3x)) (fun e => by omega)⟩, ?_⟩⟩
    show (0 ≤ (k : Int) ∧ (k : Int) < (ds'.length : Int)) ∧ _
    have oye := hsy _ we hpe
    have oxe : we.ownsRow w2.heap.size 9 1 (.slice (some ⟨gx', 0, none⟩) ds'.length c1) ds'.length xs := owns_kp (show wx.drew.drew.ownsRow _ _ _ _ _ _ from ox) hpe.kp (fun i hi e => by
      simp only [Value.ownBlock, Option.some.injEq] at hi
      omega)
    obtain ⟨gx2, hgx2, _, hwx2, hsx2⟩ := own_put oxe hlt
    simp only [Option.some.injEq, Addr.mk.injEq, and_true] at hgx2
    subst hgx2
    refine ⟨by omega, hwx2, fun wf hpf => next hlt wf ⟨?_, _, _, owns_kp oye hpf.kp (fun i hi e => ?_), hsx2 _ wf hpf, fun j z' hj hz' => ?_⟩⟩
    · exact ((kx.drew.drew).trans (hpe.kp.mono (fun i _ e => .inr (by rw [e]; rfl)))).trans (hpf.kp.mono (fun i _ e => .inl (by rw [e]; rfl)))
    · simp only [Value.ownBlock, Option.some.injEq] at hi
      omega
    · rw [List.getElem?_set, if_neg (by omega)]
      exact hys j z' (by omega) hz'
  · have hfx := hfa.kp kad (fun _ _ _ h => h) |>.kp kx (fun i h1 _ e => by
      rcases e with e | e
      · have := gx _ e; omega
      · have := gy _ e; omega)
    refine ⟨(frule_any hfx (by omega)).mono fun e we ⟨pz, cz, he, hoz, hke⟩ => ⟨_, _, _, _, _, _, _, he, fun n7 wf hnf => ⟨WrL_block hnf.block (by simp), fun wg hpg => ?_⟩⟩⟩
    have b7g := hpg.full hnf.block rfl
    have keg : K0 we wg := (hnf.kp (fun _ => False)).fresh hpg.kp (fun i hi e => by have := hnf.ge; omega)
    have kxg : K0 wx wg := hke.trans keg
    obtain ⟨_, _, hsz, _, _⟩ := own_strP (owns_kp hoz keg (fun _ _ h => h))
    refine count1 ds'.length (by omega) (fun k wy => K0 wg wy) (.refl _ _) ?_
    intro I m k wy hk ky next
    have b7y := ky.blk b7g (fun h => h)
    have b4y := (kxg.trans ky).blk b4x (fun h => h)
    refine ⟨pz, ds'.length, cz, cell_at b7y rfl, bsp_intro (fun hlt => ?_) (fun _ => ?_)⟩
    · have hlt : k < ds'.length := by simpa using hlt
      obtain ⟨z, hz⟩ : ∃ z, ds'[k]? = some z := ⟨_, List.getElem?_eq_getElem hlt⟩
      obtain ⟨gz, oz, rfl, hcz⟩ := hsz.kp ky (fun _ _ _ h => h) k z hz
      obtain ⟨gw', ow', rfl, hcw⟩ := hsw.kp (kxg.trans ky) (fun _ _ _ h => h) k z hz
      rw [Int.toNat_natCast]
      refine ⟨_, ds'.length, cz, cell_at (blk_drew b7y) rfl, ?_⟩
      show (0 ≤ (k : Int) ∧ (k : Int) < (ds'.length : Int)) ∧ _
      refine ⟨by omega, z, hcz, _, ds'.length, c2, cell_at (blk_drew b4y) rfl, ?_⟩
      show (0 ≤ (k : Int) ∧ (k : Int) < (ds'.length : Int)) ∧ _
      refine ⟨by omega, z, hcw, bsp_intro (fun h => ?_) (fun _ => next hlt _ ky.drew)⟩
      exfalso; simp at h
    · have kall : K0 w wy := (kwM wx kx).trans (kxg.trans ky)
      exact ⟨(known_any wy (hG.kp kall (fun h => h))).mono fun e wz ⟨he, hkz⟩ => ⟨_, he, rfl, kall.trans hkz⟩⟩

end Go.Proofs.YtcpjajjocmpkjaaDoor
