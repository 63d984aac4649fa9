/- The formulas of functions by the symbolic evaluator, and that each gives the call's contract. Written by a program (gen.py). No condition. -/
import Derived.Test.YtcpjajjocmpkjaaDoorProg
import Derived.Test.YtcpjajjocmpkjaaDoorZ02
import Derived.Test.YtcpjajjocmpkjaaDoorZ04
import Derived.KernelRfl
import Derived.Test.YtcpjajjocmpkjaaDoorZ06
import Derived.Test.YtcpjajjocmpkjaaDoorZ05
import Derived.Test.YtcpjajjocmpkjaaDoorZ03
import Derived.Lib.BytesEntry
import Derived.Sort.Grow
import Derived.Shelf.SlGeneric
import Derived.Shelf.SlSortCmp.NoneTotal
import Derived.Ground.SlsfProg
import Derived.Lib.SplitLaws
import Derived.Lib.CountLaws
namespace Go.Proofs.YtcpjajjocmpkjaaDoor
set_option maxRecDepth 100000
set_option linter.unusedVariables false

def VC_mcompare (a : Array Value) (b : Array Value) (w : World) (R : Ending → World → Prop) : Prop :=
 ∀ (n : Nat) (w1 : World),
 NewB w (Obj.cells a 37) n w1 →
 ∀ (n_1 : Nat) (w1_1 : World),
 NewB w1 (Obj.cells b 37) n_1 w1_1 →
 CallsS Tryd.prog 66 #[Value.slice (some (Addr.mk n 0 none)) 32 32, Value.slice (some (Addr.mk n_1 0 none)) 32 32]
 w1_1.drew fun (e : Ending) (w' : World) =>
 ∃ (x : Int), e = Ending.returned (Value.int IntKind.i64 x) ∧ R (Ending.returned (Value.int IntKind.i64 x)) w'
theorem vc_mcompare (a : Array Value) (b : Array Value) (w : World) (R : Ending → World → Prop) (h : VC_mcompare a b w R) : Calls Tryd.prog 52 ([Value.agg
    a,
  Value.agg b] : List Value).toArray w R := by
  have e : execR { P := Tryd.prog, loops := [], pur := pur1, tails := [(1, 2)], joins := [], boxes := [] } Tryd.f52.results.toList R (Tryd.f52.body.getD .skip) (initF [Value.agg
    a,
  Value.agg
    b] (Tryd.f52.ntmps - ([Value.agg a, Value.agg b] : List Value).length)) w = VC_mcompare a b w R := by kernel_rfl
  have hb : Tryd.f52.body = some (Tryd.f52.body.getD .skip) := by kernel_rfl
  exact calls_of_exec' (P := Tryd.prog) (fn := Tryd.f52) (c := Tryd.f52.body.getD .skip) (args := [Value.agg a,
  Value.agg b]) (w := w) (R := R) pur1_ok Tryd.func52 hb e h

def VC_litems (p : Option Addr) (n : Nat) (c : Nat) (w : World) (R : Ending → World → Prop) : Prop :=
 ∃ (I : List Value → World → Prop),
 ∃ (m : List Value → World → Nat),
 I [Value.int IntKind.i64 0, Value.slice none 0 0, Value.slice none 0 0] w ∧
 ∀ (x : Int) (p_1 : Option Addr) (n_1 c : Nat) (p_2 : Option Addr) (n_2 c_1 : Nat) (w' : World),
 I [Value.int IntKind.i64 x, Value.slice p_1 n_1 c, Value.slice p_2 n_2 c_1] w' →
 bsp (decide (x < (↑n : Int)) && decide (x < 20))
 (nn true p fun (b o : Nat) =>
 (0 ≤ x ∧ x < (↑n : Int)) ∧
 ∃ (f : Nat → Int),
 ∃ (p : Option Addr),
 ∃ (n : Nat),
 ∃ (c_2 : Nat),
 ∃ (x_1 : ByteArray),
 ∃ (x_2 : Int),
 ∃ (x_3 : Bool),
 ∃ (x_4 : ByteArray),
 ∃ (x_5 : Int),
 AtL w' b (o + x.toNat * 38)
 (arrI IntKind.u8 f 32 0 ++ [Value.slice p n c_2, Value.string x_1,
 Value.int IntKind.i64 x_2, Value.bool x_3, Value.string x_4, Value.int IntKind.i64 x_5]) ∧
 CallsS Tryd.prog 14
 #[Value.agg
 (arrI IntKind.u8 f 32 0 ++ [Value.slice p n c_2, Value.string x_1,
 Value.int IntKind.i64 x_2, Value.bool x_3, Value.string x_4, Value.int IntKind.i64 x_5]).toArray]
 w' fun (e : Ending) (w'_1 : World) =>
 ∃ (f : Nat → Int),
 ∃ (p : Option Addr),
 ∃ (n : Nat),
 ∃ (c_3 : Nat),
 ∃ (x_6 : ByteArray),
 ∃ (x_7 : Int),
 ∃ (x_8 : Bool),
 ∃ (x_9 : ByteArray),
 ∃ (x_10 : Int),
 ∃ (f_1 : Nat → Int),
 ∃ (p_3 : Option Addr),
 ∃ (n_3 : Nat),
 ∃ (c_4 : Nat),
 ∃ (x_11 : ByteArray),
 ∃ (x_12 : Int),
 ∃ (x_13 : Bool),
 ∃ (x_14 : ByteArray),
 ∃ (x_15 : Int),
 e =
 Ending.returned
 (Value.tuple
 #[Value.agg
 (arrI IntKind.u8 f 32 0 ++ [Value.slice p n c_3, Value.string x_6, Value.int IntKind.i64 x_7,
 Value.bool x_8, Value.string x_9, Value.int IntKind.i64 x_10]).toArray,
 Value.agg
 (arrI IntKind.u8 f_1 32 0 ++ [Value.slice p_3 n_3 c_4, Value.string x_11, Value.int IntKind.i64 x_12,
 Value.bool x_13, Value.string x_14, Value.int IntKind.i64 x_15]).toArray]) ∧
 ∀ (n_4 : Nat) (w1 : World),
 NewB w'_1
 (Obj.cells
 #[Value.int IntKind.u8 0, Value.int IntKind.u8 0, Value.int IntKind.u8 0,
 Value.int IntKind.u8 0, Value.int IntKind.u8 0, Value.int IntKind.u8 0,
 Value.int IntKind.u8 0, Value.int IntKind.u8 0, Value.int IntKind.u8 0,
 Value.int IntKind.u8 0, Value.int IntKind.u8 0, Value.int IntKind.u8 0,
 Value.int IntKind.u8 0, Value.int IntKind.u8 0, Value.int IntKind.u8 0,
 Value.int IntKind.u8 0, Value.int IntKind.u8 0, Value.int IntKind.u8 0,
 Value.int IntKind.u8 0, Value.int IntKind.u8 0, Value.int IntKind.u8 0,
 Value.int IntKind.u8 0, Value.int IntKind.u8 0, Value.int IntKind.u8 0,
 Value.int IntKind.u8 0, Value.int IntKind.u8 0, Value.int IntKind.u8 0,
 Value.int IntKind.u8 0, Value.int IntKind.u8 0, Value.int IntKind.u8 0,
 Value.int IntKind.u8 0, Value.int IntKind.u8 0, Value.slice none 0 0,
 Value.string (ByteArray.mk #[]), Value.int IntKind.i64 0, Value.bool false,
 Value.string (ByteArray.mk #[]), Value.int IntKind.i64 0]
 39)
 n_4 w1 →
 ∀ (n_5 : Nat) (w1_1 : World),
 NewB w1
 (Obj.cells
 #[Value.int IntKind.u8 0, Value.int IntKind.u8 0, Value.int IntKind.u8 0,
 Value.int IntKind.u8 0, Value.int IntKind.u8 0, Value.int IntKind.u8 0,
 Value.int IntKind.u8 0, Value.int IntKind.u8 0, Value.int IntKind.u8 0,
 Value.int IntKind.u8 0, Value.int IntKind.u8 0, Value.int IntKind.u8 0,
 Value.int IntKind.u8 0, Value.int IntKind.u8 0, Value.int IntKind.u8 0,
 Value.int IntKind.u8 0, Value.int IntKind.u8 0, Value.int IntKind.u8 0,
 Value.int IntKind.u8 0, Value.int IntKind.u8 0, Value.int IntKind.u8 0,
 Value.int IntKind.u8 0, Value.int IntKind.u8 0, Value.int IntKind.u8 0,
 Value.int IntKind.u8 0, Value.int IntKind.u8 0, Value.int IntKind.u8 0,
 Value.int IntKind.u8 0, Value.int IntKind.u8 0, Value.int IntKind.u8 0,
 Value.int IntKind.u8 0, Value.int IntKind.u8 0, Value.slice none 0 0,
 Value.string (ByteArray.mk #[]), Value.int IntKind.i64 0, Value.bool false,
 Value.string (ByteArray.mk #[]), Value.int IntKind.i64 0]
 27)
 n_5 w1_1 →
 WrL w1_1 n_4 0 38 ∧
 ∀ (w1 : World),
 PutB w1_1 n_4 0
 (arrI IntKind.u8 f 32 0 ++ [Value.slice p n c_3, Value.string x_6, Value.int IntKind.i64 x_7,
 Value.bool x_8, Value.string x_9, Value.int IntKind.i64 x_10])
 w1 →
 WrL w1 n_5 0 38 ∧
 ∀ (w1_2 : World),
 PutB w1 n_5 0
 (arrI IntKind.u8 f_1 32 0 ++ [Value.slice p_3 n_3 c_4, Value.string x_11,
 Value.int IntKind.i64 x_12, Value.bool x_13, Value.string x_14,
 Value.int IntKind.i64 x_15])
 w1_2 →
 ∃ (S : World → Prop),
 S w1_2.drew ∧
 ∃ (f : Nat → Int),
 ∃ (p : Option Addr),
 ∃ (n : Nat),
 ∃ (c_5 : Nat),
 ∃ (x_16 : ByteArray),
 ∃ (x_17 : Int),
 ∃ (x_18 : Bool),
 ∃ (x_19 : ByteArray),
 ∃ (x_20 : Int),
 (∀ (w' : World),
 S w' →
 AtL w' n_4 0
 (arrI IntKind.u8 f 32 0 ++ [Value.slice p n c_5,
 Value.string x_16, Value.int IntKind.i64 x_17,
 Value.bool x_18, Value.string x_19,
 Value.int IntKind.i64 x_20])) ∧
 ∃ (f_2 : Nat → Int),
 ∃ (p_4 : Option Addr),
 ∃ (n_6 : Nat),
 ∃ (c_6 : Nat),
 ∃ (x_21 : ByteArray),
 ∃ (x_22 : Int),
 ∃ (x_23 : Bool),
 ∃ (x_24 : ByteArray),
 ∃ (x_25 : Int),
 (∀ (w' : World),
 S w' →
 AtL w' n_5 0
 (arrI IntKind.u8 f_2 32 0 ++ [Value.slice p_4 n_6 c_6, Value.string x_21,
 Value.int IntKind.i64 x_22, Value.bool x_23,
 Value.string x_24,
 Value.int IntKind.i64 x_25])) ∧
 (∀ (n_7 : Nat) (w1 : World),
 NewB w1_2.drew
 (Obj.cells
 (arrI IntKind.u8 f 32 0 ++ [Value.slice p n c_5, Value.string x_16,
 Value.int IntKind.i64 x_17, Value.bool x_18,
 Value.string x_19,
 Value.int IntKind.i64 x_20]).toArray
 39)
 n_7 w1 →
 S w1 ∧
 (∃ (base : Nat),
 ∃ (xs : List Value),
 ∃ (news : List Value),
 w1.ownsRow base 39 38
 (Value.slice p_2 n_2 c_1) n_2 xs ∧
 news.length = 38 ∧
 SrcP w1 (some (Addr.mk n_7 0 none))
 news ∧
 n_2 + 1 ≤ 9223372036854775807 ∧
 (n_2 + 1) * 112 ≤ 140737488355328 ∧
 base ≤ w1.heap.size ∧
 ∀ (p' : Option Addr) (c' : Nat)
 (w'_2 : World),
 w'_2.ownsRow base 39 38
 (Value.slice p' (n_2 + 1) c')
 (n_2 + 1) (xs ++ news) →
 w1.grownBy w'_2
 (Value.slice p_2 n_2
 c_1).ownBlock →
 S w'_2 ∧
 ∀ (n : Nat) (w1 : World),
 NewB w'_2
 (Obj.cells
 (arrI IntKind.u8 f_2 32 0 ++ [Value.slice p_4 n_6 c_6,
 Value.string x_21,
 Value.int IntKind.i64 x_22,
 Value.bool x_23,
 Value.string x_24,
 Value.int IntKind.i64 x_25]).toArray
 27)
 n w1 →
 S w1 ∧
 ∃ (base : Nat),
 ∃ (xs : List Value),
 ∃ (news : List Value),
 w1.ownsRow base 27 38
 (Value.slice p_1 n_1 c)
 n_1 xs ∧
 news.length = 38 ∧
 SrcP w1
 (some
 (Addr.mk n 0 none))
 news ∧
 n_1 + 1 ≤
 9223372036854775807 ∧
 (n_1 + 1) * 112 ≤
 140737488355328 ∧
 base ≤ w1.heap.size ∧
 ∀
 (p'_1 :
 Option Addr)
 (c'_1 : Nat)
 (w'_3 : World),
 w'_3.ownsRow base
 27 38
 (Value.slice p'_1
 (n_1 + 1) c'_1)
 (n_1 + 1)
 (xs ++ news) →
 w1.grownBy w'_3
 (Value.slice p_1
 n_1
 c).ownBlock →
 I
 [Value.int
 IntKind.i64
 (IntKind.i64.wrap
 (x + 1)),
 Value.slice
 p'_1
 (n_1 + 1)
 c'_1,
 Value.slice p'
 (n_2 + 1) c']
 w'_3 ∧
 m
 [Value.int
 IntKind.i64
 (IntKind.i64.wrap
 (x + 1)),
 Value.slice
 p'_1
 (n_1 + 1)
 c'_1,
 Value.slice
 p' (n_2 + 1)
 c']
 w'_3 <
 m
 [Value.int
 IntKind.i64
 x,
 Value.slice
 p_1 n_1 c,
 Value.slice
 p_2 n_2 c_1]
 w') ∧
 ∀ (n : Nat) (w1_3 : World),
 NewB w1
 (Obj.cells
 (arrI IntKind.u8 f_2 32 0 ++ [Value.slice p_4 n_6 c_6,
 Value.string x_21,
 Value.int IntKind.i64 x_22,
 Value.bool x_23, Value.string x_24,
 Value.int IntKind.i64 x_25]).toArray
 27)
 n w1_3 →
 S w1_3 ∧
 ∃ (base : Nat),
 ∃ (xs : List Value),
 ∃ (news : List Value),
 w1_3.ownsRow base 39 38
 (Value.slice p_2 n_2 c_1) n_2 xs ∧
 news.length = 38 ∧
 SrcP w1_3 (some (Addr.mk n_7 0 none))
 news ∧
 n_2 + 1 ≤ 9223372036854775807 ∧
 (n_2 + 1) * 112 ≤ 140737488355328 ∧
 base ≤ w1_3.heap.size ∧
 ∀ (p' : Option Addr) (c' : Nat)
 (w'_2 : World),
 w'_2.ownsRow base 39 38
 (Value.slice p' (n_2 + 1) c')
 (n_2 + 1) (xs ++ news) →
 w1_3.grownBy w'_2
 (Value.slice p_2 n_2
 c_1).ownBlock →
 S w'_2 ∧
 ∃ (base : Nat),
 ∃ (xs : List Value),
 ∃ (news : List Value),
 w'_2.ownsRow base 27 38
 (Value.slice p_1 n_1 c)
 n_1 xs ∧
 news.length = 38 ∧
 SrcP w'_2
 (some
 (Addr.mk n 0 none))
 news ∧
 n_1 + 1 ≤
 9223372036854775807 ∧
 (n_1 + 1) * 112 ≤
 140737488355328 ∧
 base ≤
 w'_2.heap.size ∧
 ∀
 (p'_1 :
 Option Addr)
 (c'_1 : Nat)
 (w'_3 : World),
 w'_3.ownsRow base
 27 38
 (Value.slice p'_1
 (n_1 + 1) c'_1)
 (n_1 + 1)
 (xs ++ news) →
 w'_2.grownBy w'_3
 (Value.slice p_1
 n_1
 c).ownBlock →
 I
 [Value.int
 IntKind.i64
 (IntKind.i64.wrap
 (x + 1)),
 Value.slice
 p'_1
 (n_1 + 1)
 c'_1,
 Value.slice p'
 (n_2 + 1) c']
 w'_3 ∧
 m
 [Value.int
 IntKind.i64
 (IntKind.i64.wrap
 (x + 1)),
 Value.slice
 p'_1
 (n_1 + 1)
 c'_1,
 Value.slice
 p' (n_2 + 1)
 c']
 w'_3 <
 m
 [Value.int
 IntKind.i64
 x,
 Value.slice
 p_1 n_1 c,
 Value.slice
 p_2 n_2 c_1]
 w') ∧
 ∀ (n_7 : Nat) (w1 : World),
 NewB w1_2.drew
 (Obj.cells
 (arrI IntKind.u8 f_2 32 0 ++ [Value.slice p_4 n_6 c_6, Value.string x_21,
 Value.int IntKind.i64 x_22, Value.bool x_23,
 Value.string x_24,
 Value.int IntKind.i64 x_25]).toArray
 27)
 n_7 w1 →
 S w1 ∧
 ∀ (n_8 : Nat) (w1_3 : World),
 NewB w1
 (Obj.cells
 (arrI IntKind.u8 f 32 0 ++ [Value.slice p n c_5, Value.string x_16,
 Value.int IntKind.i64 x_17,
 Value.bool x_18, Value.string x_19,
 Value.int IntKind.i64 x_20]).toArray
 39)
 n_8 w1_3 →
 S w1_3 ∧
 ∃ (base : Nat),
 ∃ (xs : List Value),
 ∃ (news : List Value),
 w1_3.ownsRow base 39 38
 (Value.slice p_2 n_2 c_1) n_2 xs ∧
 news.length = 38 ∧
 SrcP w1_3 (some (Addr.mk n_8 0 none))
 news ∧
 n_2 + 1 ≤ 9223372036854775807 ∧
 (n_2 + 1) * 112 ≤ 140737488355328 ∧
 base ≤ w1_3.heap.size ∧
 ∀ (p' : Option Addr) (c' : Nat)
 (w'_2 : World),
 w'_2.ownsRow base 39 38
 (Value.slice p' (n_2 + 1) c')
 (n_2 + 1) (xs ++ news) →
 w1_3.grownBy w'_2
 (Value.slice p_2 n_2
 c_1).ownBlock →
 S w'_2 ∧
 ∃ (base : Nat),
 ∃ (xs : List Value),
 ∃ (news : List Value),
 w'_2.ownsRow base 27 38
 (Value.slice p_1 n_1 c)
 n_1 xs ∧
 news.length = 38 ∧
 SrcP w'_2
 (some
 (Addr.mk n_7 0 none))
 news ∧
 n_1 + 1 ≤
 9223372036854775807 ∧
 (n_1 + 1) * 112 ≤
 140737488355328 ∧
 base ≤
 w'_2.heap.size ∧
 ∀
 (p'_1 : Option Addr)
 (c'_1 : Nat)
 (w'_3 : World),
 w'_3.ownsRow base 27
 38
 (Value.slice p'_1
 (n_1 + 1) c'_1)
 (n_1 + 1)
 (xs ++ news) →
 w'_2.grownBy w'_3
 (Value.slice p_1
 n_1
 c).ownBlock →
 I
 [Value.int
 IntKind.i64
 (IntKind.i64.wrap
 (x + 1)),
 Value.slice
 p'_1 (n_1 + 1)
 c'_1,
 Value.slice p'
 (n_2 + 1) c']
 w'_3 ∧
 m
 [Value.int
 IntKind.i64
 (IntKind.i64.wrap
 (x + 1)),
 Value.slice
 p'_1
 (n_1 + 1)
 c'_1,
 Value.slice p'
 (n_2 + 1) c']
 w'_3 <
 m
 [Value.int
 IntKind.i64
 x,
 Value.slice
 p_1 n_1 c,
 Value.slice
 p_2 n_2 c_1]
 w')
 (R (Ending.returned (Value.tuple #[Value.slice p_2 n_2 c_1, Value.slice p_1 n_1 c])) w')
theorem vc_litems (p : Option Addr) (n : Nat) (c : Nat) (w : World) (R : Ending → World → Prop) (h : VC_litems p n c w R) : Calls Tryd.prog 26 ([Value.slice
    p n c] : List Value).toArray w R := by
  have e : execR { P := Tryd.prog, loops := [(4, [(6, Ck.int IntKind.i64), (5, Ck.slice), (4, Ck.slice)])], pur := pur1, tails := [(7, 2)], joins := [], boxes := [] } Tryd.f26.results.toList R (Tryd.f26.body.getD .skip) (initF [Value.slice
    p n c] (Tryd.f26.ntmps - ([Value.slice p n c] : List Value).length)) w = VC_litems p n c w R := by kernel_rfl
  have hb : Tryd.f26.body = some (Tryd.f26.body.getD .skip) := by kernel_rfl
  exact calls_of_exec' (P := Tryd.prog) (fn := Tryd.f26) (c := Tryd.f26.body.getD .skip) (args := [Value.slice p n
    c]) (w := w) (R := R) pur1_ok Tryd.func26 hb e h

def VC_later (nb : ByteArray) (ps : ByteArray) (mb : Int) (dl : Int) (p : Option Addr) (n : Nat) (c : Nat) (q : Option Addr) (k : Nat) (d : Nat) (now : Int) (later : Int) (w : World) (R : Ending → World → Prop) : Prop :=
 ∀ (n_1 : Nat) (w1 : World),
 NewB w
 (Obj.cells #[Value.string nb, Value.string ps, Value.int IntKind.i64 mb, Value.int IntKind.i64 dl, Value.slice p n c]
 24)
 n_1 w1 →
 ∃ (x : ByteArray),
 ∃ (x_1 : ByteArray),
 ∃ (x_2 : Int),
 ∃ (x_3 : Int),
 ∃ (p : Option Addr),
 ∃ (n : Nat),
 ∃ (c : Nat),
 AtL w1 n_1 0
 [Value.string x, Value.string x_1, Value.int IntKind.i64 x_2, Value.int IntKind.i64 x_3, Value.slice p n c] ∧
 CallsS Tryd.prog 10
 #[Value.agg
 #[Value.string x, Value.string x_1, Value.int IntKind.i64 x_2, Value.int IntKind.i64 x_3,
 Value.slice p n c]]
 w1 fun (e : Ending) (w' : World) =>
 ∃ (x : ByteArray),
 ∃ (x_4 : ByteArray),
 ∃ (x_5 : Int),
 ∃ (x_6 : Int),
 ∃ (p : Option Addr),
 ∃ (n : Nat),
 ∃ (c : Nat),
 ∃ (x_7 : ByteArray),
 ∃ (x_8 : ByteArray),
 ∃ (x_9 : Int),
 ∃ (x_10 : Int),
 ∃ (p_1 : Option Addr),
 ∃ (n_2 : Nat),
 ∃ (c_1 : Nat),
 e =
 Ending.returned
 (Value.tuple
 #[Value.agg
 #[Value.string x, Value.string x_4, Value.int IntKind.i64 x_5, Value.int IntKind.i64 x_6,
 Value.slice p n c],
 Value.agg
 #[Value.string x_7, Value.string x_8, Value.int IntKind.i64 x_9,
 Value.int IntKind.i64 x_10, Value.slice p_1 n_2 c_1]]) ∧
 ∀ (n_3 : Nat) (w1 : World),
 NewB w'
 (Obj.cells
 #[Value.string (ByteArray.mk #[]), Value.string (ByteArray.mk #[]),
 Value.int IntKind.i64 0, Value.int IntKind.i64 0, Value.slice none 0 0]
 28)
 n_3 w1 →
 ∀ (n_4 : Nat) (w1_1 : World),
 NewB w1
 (Obj.cells
 #[Value.string (ByteArray.mk #[]), Value.string (ByteArray.mk #[]),
 Value.int IntKind.i64 0, Value.int IntKind.i64 0, Value.slice none 0 0]
 24)
 n_4 w1_1 →
 WrL w1_1 n_3 0 5 ∧
 ∀ (w1 : World),
 PutB w1_1 n_3 0
 [Value.string x, Value.string x_4, Value.int IntKind.i64 x_5,
 Value.int IntKind.i64 x_6, Value.slice p n c]
 w1 →
 WrL w1 n_4 0 5 ∧
 ∀ (w1_2 : World),
 PutB w1 n_4 0
 [Value.string x_7, Value.string x_8, Value.int IntKind.i64 x_9,
 Value.int IntKind.i64 x_10, Value.slice p_1 n_2 c_1]
 w1_2 →
 ∃ (x : ByteArray),
 ∃ (x_11 : ByteArray),
 ∃ (x_12 : Int),
 ∃ (x_13 : Int),
 ∃ (p : Option Addr),
 ∃ (n : Nat),
 ∃ (c : Nat),
 AtL w1_2 n_3 0
 [Value.string x, Value.string x_11, Value.int IntKind.i64 x_12,
 Value.int IntKind.i64 x_13, Value.slice p n c] ∧
 CallsS Tryd.prog 11
 #[Value.agg
 #[Value.string x, Value.string x_11, Value.int IntKind.i64 x_12,
 Value.int IntKind.i64 x_13, Value.slice p n c]]
 w1_2 fun (e : Ending) (w' : World) =>
 ∃ (x : Option Addr),
 ∃ (x_14 : Int),
 e =
 Ending.returned
 (Value.tuple #[Value.pointer x, Value.int IntKind.i64 x_14]) ∧
 bsp (x_14 != 0 || x.isNone || decide (later < now))
 (CallsS Tryd.prog 12 #[] w' fun (e : Ending) (w' : World) =>
 ∃ (x : Bool),
 e = Ending.returned (Value.bool x) ∧
 R (Ending.returned (Value.bool x)) w')
 (CallsS Tryd.prog 26 #[Value.slice q k d] w'
 fun (e : Ending) (w' : World) =>
 ∃ (p : Option Addr),
 ∃ (n : Nat),
 ∃ (c : Nat),
 ∃ (p_2 : Option Addr),
 ∃ (n_5 : Nat),
 ∃ (c_2 : Nat),
 e =
 Ending.returned
 (Value.tuple #[Value.slice p n c, Value.slice p_2 n_5 c_2]) ∧
 CallsS Tryd.prog 27
 #[Value.pointer x, Value.slice p n c,
 Value.int IntKind.i64 now]
 w' fun (e : Ending) (w' : World) =>
 ∃ (p_3 : Option Addr),
 ∃ (n_6 : Nat),
 ∃ (c_3 : Nat),
 e = Ending.returned (Value.slice p_3 n_6 c_3) ∧
 CallsS Tryd.prog 27
 #[Value.pointer x, Value.slice p n c,
 Value.int IntKind.i64 later]
 w' fun (e : Ending) (w' : World) =>
 ∃ (p : Option Addr),
 ∃ (n : Nat),
 ∃ (c : Nat),
 e = Ending.returned (Value.slice p n c) ∧
 ∃ (I : List Value → World → Prop),
 ∃ (m : List Value → World → Nat),
 I [Value.int IntKind.i64 0] w' ∧
 ∀ (x : Int) (w' : World),
 I [Value.int IntKind.i64 x] w' →
 bsp (decide (x < (↑n_6 : Int)))
 (∃ (I_1 : List Value → World → Prop),
 ∃ (m_1 : List Value → World → Nat),
 I_1
 [Value.int IntKind.i64 0, Value.bool false]
 w' ∧
 ∀ (x_15 : Int) (x_16 : Bool) (w'_1 : World),
 I_1
 [Value.int IntKind.i64 x_15,
 Value.bool x_16]
 w'_1 →
 bsp (decide (x_15 < (↑n : Int)))
 (nn (!x_16) p fun (b o : Nat) =>
 gimp (!x_16)
 (0 ≤ x_15 ∧ x_15 < (↑n : Int)) ∧
 ∃ (f : Nat → Int),
 gimp (!x_16)
 (AtL w'_1.drew b
 (o + x_15.toNat * 32)
 (arrI IntKind.u8 f 32 0)) ∧
 nn (!x_16) p_3 fun (b o : Nat) =>
 gimp (!x_16)
 (0 ≤ x ∧ x < (↑n_6 : Int)) ∧
 ∃ (f_1 : Nat → Int),
 gimp (!x_16)
 (AtL w'_1.drew b
 (o + x.toNat * 32)
 (arrI IntKind.u8 f_1 32 0)) ∧
 ∃ (r : Bool),
 gimp (!x_16)
 (EqP Tryd.prog 37
 (Value.agg
 (arrI IntKind.u8 f 32 0).toArray)
 (Value.agg
 (arrI IntKind.u8 f_1 32 0).toArray)
 r) ∧
 I_1
 [Value.int IntKind.i64
 (IntKind.i64.wrap
 (x_15 + 1)),
 Value.bool (x_16 || r)]
 w'_1.drew ∧
 m_1
 [Value.int IntKind.i64
 (IntKind.i64.wrap
 (x_15 + 1)),
 Value.bool (x_16 || r)]
 w'_1.drew <
 m_1
 [Value.int IntKind.i64 x_15,
 Value.bool x_16]
 w'_1)
 (bsp (!x_16)
 (R (Ending.returned (Value.bool false))
 w'_1)
 (I
 [Value.int IntKind.i64
 (IntKind.i64.wrap (x + 1))]
 w'_1 ∧
 m
 [Value.int IntKind.i64
 (IntKind.i64.wrap (x + 1))]
 w'_1 <
 m [Value.int IntKind.i64 x] w')))
 (CallsS Tryd.prog 12 #[] w'
 fun (e : Ending) (w' : World) =>
 ∃ (x : Bool),
 e = Ending.returned (Value.bool x) ∧
 R (Ending.returned (Value.bool x)) w'))
theorem vc_later (nb : ByteArray) (ps : ByteArray) (mb : Int) (dl : Int) (p : Option Addr) (n : Nat) (c : Nat) (q : Option Addr) (k : Nat) (d : Nat) (now : Int) (later : Int) (w : World) (R : Ending → World → Prop) (h : VC_later nb ps mb dl p n c q k d now later w R) : Calls Tryd.prog 8 ([Value.agg
    #[Value.string nb, Value.string ps, Value.int IntKind.i64 mb, Value.int IntKind.i64 dl, Value.slice p n c],
  Value.slice q k d, Value.int IntKind.i64 now, Value.int IntKind.i64 later] : List Value).toArray w R := by
  have e : execR { P := Tryd.prog, loops := [(8, [(17, Ck.int IntKind.i64)]), (12, [(19, Ck.int IntKind.i64), (18, Ck.bool)])], pur := pur1, tails := [], joins := [], boxes := [] } Tryd.f8.results.toList R (Tryd.f8.body.getD .skip) (initF [Value.agg
    #[Value.string nb, Value.string ps, Value.int IntKind.i64 mb, Value.int IntKind.i64 dl, Value.slice p n c],
  Value.slice q k d, Value.int IntKind.i64 now,
  Value.int IntKind.i64
    later] (Tryd.f8.ntmps - ([Value.agg
    #[Value.string nb, Value.string ps, Value.int IntKind.i64 mb, Value.int IntKind.i64 dl, Value.slice p n c],
  Value.slice q k d, Value.int IntKind.i64 now,
  Value.int IntKind.i64
    later] : List Value).length)) w = VC_later nb ps mb dl p n c q k d now later w R := by kernel_rfl
  have hb : Tryd.f8.body = some (Tryd.f8.body.getD .skip) := by kernel_rfl
  exact calls_of_exec' (P := Tryd.prog) (fn := Tryd.f8) (c := Tryd.f8.body.getD .skip) (args := [Value.agg
    #[Value.string nb, Value.string ps, Value.int IntKind.i64 mb, Value.int IntKind.i64 dl, Value.slice p n c],
  Value.slice q k d, Value.int IntKind.i64 now,
  Value.int IntKind.i64 later]) (w := w) (R := R) pur1_ok Tryd.func8 hb e h

end Go.Proofs.YtcpjajjocmpkjaaDoor

/- The contracts of bytes.Compare, msgid.Compare, cmp.Or and of the closure by which Select sorts. -/
namespace Go.Proofs.YtcpjajjocmpkjaaDoor
open Go.RowKit Go.Sort

/-- The numbers of an array of 32 bytes. -/
def idI (f : Nat → Int) : List Int := (List.range 32).map f
/-- Its bytes. -/
def idB (f : Nat → Int) : List UInt8 := (idI f).map fun x => x.toNat.toUInt8
theorem arrI_idI (f : Nat → Int) : arrI .u8 f 32 0 = (idI f).map (Value.int .u8) := rfl
theorem idI_get (f : Nat → Int) {j : Nat} (h : j < 32) : (idI f)[j]? = some (f j) := by simp [idI, h]
theorem bytesOf_idB (f : Nat → Int) : Lib.bytesOf (idI f) = idB f := rfl
set_option maxRecDepth 100000 in
theorem bcompare_run {w : World} {b b' o o' : Nat} {f g : Nat → Int} (h : ∀ j, j < 32 → w.cell? ⟨b, o + j, none⟩ = some (.int .u8 (f j))) (h' : ∀ j, j < 32 → w.cell? ⟨b', o' + j, none⟩ = some (.int .u8 (g j))) (c c' : Nat) :
    (Extern.BytealgCompare.compare #[.slice (some ⟨b, o, none⟩) 32 c, .slice (some ⟨b', o', none⟩) 32 c']).run Tryd.prog w = .ok (.int .i64 (Lib.compareBytes (idB f) (idB g))) w := by
  have key : ∀ (b o : Nat) (f : Nat → Int), (∀ j, j < 32 → w.cell? ⟨b, o + j, none⟩ = some (.int .u8 (f j))) → (Extern.Bytes.loadBytes ⟨b, o, none⟩ 32 .empty).run Tryd.prog w = .ok ⟨(idB f).toArray⟩ w := fun b o f h => by
    have := Lib.run_loadBytesX (P := Tryd.prog) w (idI f) ⟨b, o, none⟩ .empty (fun j x hj => by
      have hlt : j < 32 := by have := (List.getElem?_eq_some_iff.1 hj).1; simpa [idI] using this
      rw [idI_get f hlt] at hj
      simp at hj
      subst hj
      have e : (⟨b, o, none⟩ : Addr).add j = ⟨b, o + j, none⟩ := by
        unfold Addr.add
        simp
      rw [e]
      exact h j hlt)
    have hl : (idI f).length = 32 := by simp [idI]
    rw [hl, bytesOf_idB] at this
    rw [this]
    generalize idB f = l
    have e : ByteArray.empty.data ++ l.toArray = l.toArray := by
      show (#[] : Array UInt8) ++ l.toArray = l.toArray
      simp
    rw [e]
  change Sem.run Tryd.prog (do pure (goInt (Extern.BytealgCompare.cmp (← Extern.Bytes.bytesOf (.slice (some ⟨b, o, none⟩) 32 c)) (← Extern.Bytes.bytesOf (.slice (some ⟨b', o', none⟩) 32 c'))))) w = _
  simp only [Extern.Bytes.bytesOf, Sem.run_bind, key b o f h, key b' o' g h', Sem.run_pure, Result.andThen]
  rw [Lib.cmp_eq]
  rfl
set_option maxHeartbeats 1000000 in
set_option maxRecDepth 100000 in
theorem bcompare_any {w : World} {b b' o o' : Nat} {f g : Nat → Int} (h : ∀ j, j < 32 → w.cell? ⟨b, o + j, none⟩ = some (.int .u8 (f j))) (h' : ∀ j, j < 32 → w.cell? ⟨b', o' + j, none⟩ = some (.int .u8 (g j))) (c c' : Nat) :
    Calls Tryd.prog 66 #[.slice (some ⟨b, o, none⟩) 32 c, .slice (some ⟨b', o', none⟩) 32 c'] w fun e w' => e = .returned (.int .i64 (Lib.compareBytes (idB f) (idB g))) ∧ w' = w := by
  have hr := bcompare_run h h' c c'
  generalize Lib.compareBytes (idB f) (idB g) = r at hr ⊢
  clear h h'
  go_enter Tryd.func66, Tryd.ntmps66
  go_wp2
  rw [run_callFunc_extern Tryd.func86 (by kernel_rfl) (by kernel_rfl) (by kernel_rfl) (e := Extern.BytealgCompare.compare) (by kernel_rfl), hr]
  simp only [Result.andThen]
  rw [Oper.upon_value]
  go_wp2
  go_ret
  exact ⟨rfl, rfl⟩

theorem arrI_get (k : IntKind) (f : Nat → Int) : ∀ (n i j : Nat), j < n → (arrI k f n i)[j]? = some (.int k (f (i + j)))
  | 0, _, j, h => by omega
  | n + 1, i, 0, _ => by simp [arrI]
  | n + 1, i, j + 1, h => by
    simp only [arrI, List.getElem?_cons_succ]
    rw [arrI_get k f n (i + 1) j (by omega)]
    congr 3; omega
/-- Only draws and new blocks. -/
theorem grow_of {w w' : World} (h : K0 w w') (hd : w.drawn ≤ w'.drawn) : ∃ q os', w' = grow (w.drewN q) os' := by
  refine ⟨w'.drawn - w.drawn, w'.heap.extract w.heap.size w'.heap.size, ?_⟩
  have hh : w'.heap = w.heap ++ w'.heap.extract w.heap.size w'.heap.size := by
    apply Array.ext_getElem?
    intro i
    rw [Array.getElem?_append]
    split
    · rename_i hi; exact h.block i hi (fun h => h)
    · rename_i hi
      rw [Array.getElem?_extract]
      have := h.size
      by_cases hl : i < w'.heap.size
      · rw [if_pos (by omega)]; congr 1; omega
      · rw [if_neg (by omega)]; exact Array.getElem?_eq_none (by omega)
  have h1 := h.os
  have h2 := h.tape
  have h3 := h.output
  obtain ⟨hp, tp, dr, os, out⟩ := w
  obtain ⟨hp', tp', dr', os', out'⟩ := w'
  simp only at hh h1 h2 h3 hd
  subst h1 h2 h3
  simp only [grow, World.drewN]
  congr 1
  omega
theorem mcompare_any (f g : Nat → Int) (w : World) : Calls Tryd.prog 52 #[.agg (arrI .u8 f 32 0).toArray, .agg (arrI .u8 g 32 0).toArray] w fun e w' => e = .returned (.int .i64 (Lib.compareBytes (idB f) (idB g))) ∧ K0 w w' ∧ w.drawn ≤ w'.drawn := by
  refine vc_mcompare _ _ w _ ?_
  intro n w1 hn n1 w2 hn1
  have b1 := (hn1.kp (fun _ => False)).blk hn.block (fun h => h)
  have b2 := hn1.block
  have hd : w2.drawn = w.drawn := by rw [hn1.hw, hn.hw]; rfl
  refine ⟨(bcompare_any (w := w2.drew) (f := f) (g := g) (fun j hj => cell_at (blk_drew b1) ?_) (fun j hj => cell_at (blk_drew b2) ?_) 32 32).mono fun e w' ⟨he, hw⟩ => ⟨_, he, rfl, ?_, ?_⟩⟩
  · rw [Nat.zero_add]; simpa using arrI_get .u8 f 32 0 j hj
  · rw [Nat.zero_add]; simpa using arrI_get .u8 g 32 0 j hj
  · rw [hw]; exact ((hn.kp _).trans (hn1.kp _)).drew
  · rw [hw]; show w.drawn ≤ w2.drawn + 1; omega
theorem cmpOr_any (a b : Int) (n c : Nat) (t : TypeId) (w : World) (hb : w.heap[n]? = some (.cells #[.int .i64 a, .int .i64 b] t (0, 0))) : Calls Tryd.prog 50 #[.slice (some ⟨n, 0, none⟩) 2 c] w fun e w' => e = .returned (.int .i64 (if a ≠ 0 then a else b)) ∧ w' = w := by
  refine vc_cmpOr (some ⟨n, 0, none⟩) 2 c w _ ?_
  refine count1 2 (by decide) (fun k w' => (0 < k → a = 0) ∧ (1 < k → b = 0) ∧ w' = w) ⟨fun h => by omega, fun h => by omega, rfl⟩ ?_
  rintro I m k w' hk ⟨h0, h1, rfl⟩ next
  refine bsp_intro (fun hlt => ?_) (fun hge => ?_)
  · have hlt : k < 2 := by simp at hlt; omega
    show (0 ≤ (k : Int) ∧ (k : Int) < ((2 : Nat) : Int)) ∧ _
    rw [Int.toNat_natCast]
    obtain rfl | rfl : k = 0 ∨ k = 1 := by omega
    · refine ⟨by omega, a, cell_at hb rfl, bsp_intro (fun h => ⟨?_, rfl⟩) (fun h => next hlt _ ⟨fun _ => ?_, fun h => by omega, rfl⟩)⟩
      · have h : a ≠ 0 := by simpa using h
        rw [if_pos h]
      · simpa using h
    · have ha := h0 (by omega)
      refine ⟨by omega, b, cell_at hb rfl, bsp_intro (fun h => ⟨?_, rfl⟩) (fun h => next hlt _ ⟨fun _ => ha, fun _ => by simpa using h, rfl⟩)⟩
      rw [if_neg (by omega)]
  · have : k = 2 := by simp at hge; omega
    subst this
    rw [if_neg (by have := h0 (by omega); omega), h1 (by omega)]
    exact ⟨rfl, rfl⟩
/-- A candidate: when it is due, its identity. -/
abbrev Cand := Int × (Nat → Int)
def candL (x : Cand) : List Value := [Value.int .i64 x.1] ++ arrI .u8 x.2 32 0
def cfI (x y : Cand) : Int := if x.1 < y.1 then -1 else if y.1 < x.1 then 1 else 0
def cfC (x y : Cand) : Int := if cfI x y ≠ 0 then cfI x y else Lib.compareBytes (idB x.2) (idB y.2)
theorem cfC_ord : Ord3 cfC := (ci_ord (fun x : Cand => x.1)).thn (cb_ord (fun x : Cand => idB x.2)) (fun x y z h1 h2 => by (try simp only at h1 h2 ⊢); split at h1 <;> split at h2 <;> split <;> omega)
theorem cfI_eq (x y : Cand) : cfI x y = Lib.compareInt x.1 y.1 := by unfold cfI Lib.compareInt; rfl
theorem scmp_any (x y : Cand) (w : World) : Calls Tryd.prog 49 #[.agg (candL x).toArray, .agg (candL y).toArray] w fun e w' => e = .returned (.int .i64 (cfC x y)) ∧ K0 w w' ∧ w.drawn ≤ w'.drawn := by
  refine vc_scmp _ _ w _ ?_
  intro n w1 hn n1 w2 hn1
  have b1 := (hn1.kp (fun _ => False)).blk hn.block (fun h => h)
  have b2 := hn1.block
  have hd : w2.drawn = w.drawn := by rw [hn1.hw, hn.hw]; rfl
  have k2 : K0 w w2 := (hn.kp _).trans (hn1.kp _)
  refine ⟨fun wx => K0 w2 wx, (Kp.refl _ _).drew, x.1, fun wx h => cell_at (h.blk b1 (fun h => h)) rfl, y.1, fun wx h => cell_at (h.blk b2 (fun h => h)) rfl, x.2, fun wx h => AtL_block (h.blk b1 (fun h => h)) rfl, y.2, fun wx h => AtL_block (h.blk b2 (fun h => h)) rfl, ?_⟩
  refine ⟨(Tryd.cmp_Compare_int x.1 y.1 w2.drew).mono fun e w3 ⟨he, hw⟩ => ⟨_, he, by rw [hw]; exact (Kp.refl _ _).drew, ?_⟩⟩
  subst hw
  refine ⟨(mcompare_any x.2 y.2 w2.drew).mono fun e w4 ⟨he, hk4, hd4⟩ => ⟨_, he, fun n3 w5 hn5 => ?_⟩⟩
  refine ⟨(cmpOr_any _ _ n3 2 _ w5 hn5.block).mono fun e w6 ⟨he, hw⟩ => ⟨_, he, ?_, ?_, ?_⟩⟩
  · unfold cfC; rw [cfI_eq]
  · rw [hw]; exact (k2.drew.trans hk4).trans (hn5.kp _)
  · rw [hw, hn5.hw]
    show w.drawn ≤ w4.drawn
    have : w2.drew.drawn = w2.drawn + 1 := rfl
    omega

end Go.Proofs.YtcpjajjocmpkjaaDoor

/-
  DERIVED: THE SHELF's CONTRACTS AT THIS DUMP, IN PLAIN WORDS (tools/lay-plain.mjs out of 'TrydShelf.lean', which tools/lay-shelf.mjs wrote): THE SAME DECLARATIONS UNDER THE SAME NAMES: 'import', 'namespace', 'open', 'def', 'theorem' AND NOTHING ELSE: no command of the shelf's: FOR A HAND-IN. Each laying: the table of numbers ('.._ren') and one theorem, a field a fact of the dump's own or the kernel's comparison; each contract: ONE APPLICATION.
-/
namespace Go.Proofs
open Go.Shelf
def Tryd.laysSlF06_f48_ren : Go.Shelf.Ren := ⟨fun | 6 => 48 | 15 => 64 | 14 => 63 | 28 => 84 | 29 => 85 | 20 => 76 | 21 => 77 | 22 => 78 | 23 => 79 | 24 => 80 | 25 => 81 | 26 => 82 | 27 => 83 | 46 => 96 | 47 => 97 | 48 => 98 | 49 => 99 | 50 => 100 | 57 => 106 | n => n, fun | 22 => 99 | 24 => 101 | 25 => 106 | 3 => 3 | 39 => 131 | 0 => 0 | 53 => 163 | 55 => 165 | 4 => 4 | 46 => 157 | 45 => 156 | 50 => 43 | 5 => 5 | 9 => 9 | 66 => 177 | 70 => 181 | 76 => 187 | 77 => 82 | n => n, fun | n => n⟩
theorem Tryd.laysSlF06_f48 : Go.Proofs.SlLaysF0.n6 Tryd.prog Tryd.laysSlF06_f48_ren := {
  mixed := by kernel_rfl
  f6 := ⟨Tryd.f48.name, by decide, Tryd.func48.trans (congrArg some (by kernel_rfl))⟩
  f14 := ⟨Tryd.f63.name, by decide, Tryd.func63.trans (congrArg some (by kernel_rfl))⟩
  f15 := Tryd.func64.trans (congrArg some (by kernel_rfl))
  f20 := ⟨Tryd.f76.name, by decide, Tryd.func76.trans (congrArg some (by kernel_rfl))⟩
  f21 := ⟨Tryd.f77.name, by decide, Tryd.func77.trans (congrArg some (by kernel_rfl))⟩
  f22 := ⟨Tryd.f78.name, by decide, Tryd.func78.trans (congrArg some (by kernel_rfl))⟩
  f23 := ⟨Tryd.f79.name, by decide, Tryd.func79.trans (congrArg some (by kernel_rfl))⟩
  f24 := ⟨Tryd.f80.name, by decide, Tryd.func80.trans (congrArg some (by kernel_rfl))⟩
  f25 := ⟨Tryd.f81.name, by decide, Tryd.func81.trans (congrArg some (by kernel_rfl))⟩
  f26 := ⟨Tryd.f82.name, by decide, Tryd.func82.trans (congrArg some (by kernel_rfl))⟩
  f27 := ⟨Tryd.f83.name, by decide, Tryd.func83.trans (congrArg some (by kernel_rfl))⟩
  f28 := Tryd.func84.trans (congrArg some (by kernel_rfl))
  f29 := Tryd.func85.trans (congrArg some (by kernel_rfl))
  f46 := ⟨Tryd.f96.name, by decide, Tryd.func96.trans (congrArg some (by kernel_rfl))⟩
  f47 := Tryd.func97.trans (congrArg some (by kernel_rfl))
  f48 := Tryd.func98.trans (congrArg some (by kernel_rfl))
  f49 := ⟨Tryd.f99.name, by decide, Tryd.func99.trans (congrArg some (by kernel_rfl))⟩
  f50 := ⟨Tryd.f100.name, by decide, Tryd.func100.trans (congrArg some (by kernel_rfl))⟩
  f57 := ⟨Tryd.f106.name, by decide, Tryd.func106.trans (congrArg some (by kernel_rfl))⟩
  t0 := Tryd.underlying0
  a0 := Tryd.isAgg0
  z0 := Tryd.sizeOf0
  v0 := Tryd.zeroValue0
  t3 := Tryd.underlying3
  a3 := Tryd.isAgg3
  z3 := Tryd.sizeOf3
  v3 := Tryd.zeroValue3
  t4 := Tryd.underlying4
  a4 := Tryd.isAgg4
  z4 := Tryd.sizeOf4
  v4 := Tryd.zeroValue4
  t5 := Tryd.underlying5
  a5 := Tryd.isAgg5
  z5 := Tryd.sizeOf5
  v5 := Tryd.zeroValue5
  t9 := Tryd.underlying9
  a9 := Tryd.isAgg9
  z9 := Tryd.sizeOf9
  v9 := Tryd.zeroValue9
  t22 := Tryd.underlying99
  a22 := Tryd.isAgg99
  z22 := Tryd.sizeOf99
  v22 := Tryd.zeroValue99
  t25 := Tryd.underlying106
  a25 := Tryd.isAgg106
  z25 := Tryd.sizeOf106
  v25 := Tryd.zeroValue106
  t39 := Tryd.underlying131
  a39 := Tryd.isAgg131
  z39 := Tryd.sizeOf131
  v39 := Tryd.zeroValue131
  t45 := Tryd.underlying156
  a45 := Tryd.isAgg156
  z45 := Tryd.sizeOf156
  v45 := Tryd.zeroValue156
  t46 := Tryd.underlying157
  a46 := Tryd.isAgg157
  z46 := Tryd.sizeOf157
  v46 := Tryd.zeroValue157
  t50 := Tryd.underlying43
  a50 := Tryd.isAgg43
  z50 := Tryd.sizeOf43
  v50 := Tryd.zeroValue43
  t53 := Tryd.underlying163
  a53 := Tryd.isAgg163
  z53 := Tryd.sizeOf163
  v53 := Tryd.zeroValue163
  t55 := Tryd.underlying165
  a55 := Tryd.isAgg165
  z55 := Tryd.sizeOf165
  v55 := Tryd.zeroValue165
  t66 := Tryd.underlying177
  a66 := Tryd.isAgg177
  z66 := Tryd.sizeOf177
  v66 := Tryd.zeroValue177
  t70 := Tryd.underlying181
  a70 := Tryd.isAgg181
  z70 := Tryd.sizeOf181
  v70 := Tryd.zeroValue181
  t76 := Tryd.underlying187
  a76 := Tryd.isAgg187
  z76 := Tryd.sizeOf187
  v76 := Tryd.zeroValue187
  t77 := Tryd.underlying82
  a77 := Tryd.isAgg82
  z77 := Tryd.sizeOf82
  v77 := Tryd.zeroValue82 }
open Go.RowKit Go.Lib in
/-- slices.SortFunc at no element. -/
theorem Tryd.slices_SortFunc_none (p : Option Addr) (cap : Nat) (fv : Value) (w : World) :
    Calls Tryd.prog 48 #[.slice p 0 cap, fv] w fun e w' => e = .returned (.tuple #[]) ∧ w' = w := AnyF.slices_SortFunc_none Tryd.laysSlF06_f48 p cap fv w
end Go.Proofs

/- Matching by rows (plain): the marks of the program's Match are those of a table of prefixes. No condition. -/
namespace Go.Proofs.YtcpjajjocmpkjaaDoor

def rowS (prev h : Nat → Bool) : Nat → Bool
  | 0 => prev 0
  | k + 1 => prev (k + 1) || (h k && rowS prev h k)
def rowC (prev h : Nat → Bool) : Nat → Bool
  | 0 => false
  | k + 1 => h k && prev k
/-- The first i elements match the first k characters. -/
def pmF (st : Nat → Bool) (h : Nat → Nat → Bool) : Nat → Nat → Bool
  | 0, k => k == 0
  | i + 1, k => if st i = true then rowS (pmF st h i) (h i) k else rowC (pmF st h i) (h i) k
theorem pmF_zero (st : Nat → Bool) (h : Nat → Nat → Bool) (i : Nat) : pmF st h (i + 1) 0 = (st i && pmF st h i 0) := by
  simp only [pmF]; cases st i <;> simp [rowS, rowC]
theorem pmF_succ (st : Nat → Bool) (h : Nat → Nat → Bool) (i k : Nat) : pmF st h (i + 1) (k + 1) = if st i = true then pmF st h i (k + 1) || (h i k && pmF st h (i + 1) k) else h i k && pmF st h i k := by
  simp only [pmF]; cases hs : st i <;> simp [rowS, rowC]
theorem run_pm (els : List El) (s : ByteArray) : ∀ (k j : Nat), runF els s k j = if elS els j = true then pmF (elS els) (fun i k => elH els i (at8 s k)) (j + 1) k else pmF (elS els) (fun i k => elH els i (at8 s k)) j k := by
  intro k
  induction k with
  | zero =>
    have key : ∀ j, spF (elS els) (fun j => j == 0) j = pmF (elS els) (fun i k => elH els i (at8 s k)) j 0 := by
      intro j
      induction j with
      | zero => rfl
      | succ j ih => rw [pmF_zero, spF, ih]; simp
    intro j
    rw [runF, key]
    split
    · rename_i hs; rw [pmF_zero, hs]; simp
    · rfl
  | succ k ih =>
    intro j
    rw [runF]
    induction j with
    | zero =>
      rw [spF]
      simp only [stpF, ih 0]
      cases hs : elS els 0 with
      | true => rw [if_pos rfl, if_pos rfl, pmF_succ, hs, if_pos rfl, Bool.and_comm]; simp [pmF]
      | false => simp [pmF]
    | succ j ihj =>
      rw [spF, ihj]
      have h1 : ((match j + 1 with | 0 => false | i + 1 => !elS els i && runF els s k i && elH els i (at8 s k)) || (elS els j && if elS els j = true then pmF (elS els) (fun i k => elH els i (at8 s k)) (j + 1) (k + 1) else pmF (elS els) (fun i k => elH els i (at8 s k)) j (k + 1))) = pmF (elS els) (fun i k => elH els i (at8 s k)) (j + 1) (k + 1) := by
        simp only [ih j]
        rw [pmF_succ]
        cases hs : elS els j with
        | true => simp
        | false => simp [Bool.and_comm]
      unfold stpF
      rw [Bool.or_assoc, h1, ih (j + 1)]
      cases hs : elS els (j + 1) with
      | true => rw [if_pos rfl, if_pos rfl, pmF_succ _ _ (j + 1), hs, if_pos rfl, Bool.or_comm, Bool.true_and, Bool.and_comm]
      | false => simp
/-- The program's Match by the table. -/
theorem match_pm (els : List El) (s : ByteArray) : matchB els s = pmF (elS els) (fun i k => elH els i (at8 s k)) els.length s.size := by
  unfold matchB
  rw [run_pm, if_neg (by simp [elS])]

end Go.Proofs.YtcpjajjocmpkjaaDoor

/- Patterns of the reference (plain): matching by rows agrees with the program's Match, where the elements agree. No condition. -/
namespace Go.Proofs.YtcpjajjocmpkjaaDoor

/-- An element of a pattern of the reference. -/
structure RE where
  star : Bool
  set : Nat → Bool
/-- An element and that of the reference. -/
structure RelE (e : El) (r : RE) : Prop where
  star : e.isStar = r.star
  set : r.star = false → ∀ c : Nat, c < 128 → hasB e.chars c = r.set c
  char : ∀ c : Int, 0 ≤ c → c ≤ 255 → hasB e.chars c = true → charB c = true
theorem name_char : ∀ c : Int, 0 ≤ c → c ≤ 255 → hasB nameBytes c = charB c := by
  have h : ∀ n : Fin 256, hasB nameBytes (n.val : Int) = charB (n.val : Int) := by decide +kernel
  intro c h0 h1
  have := h ⟨c.toNat, by omega⟩
  simp only at this
  rw [show ((c.toNat : Nat) : Int) = c by omega] at this
  exact this
theorem charB_lt {c : Int} (h : charB c = true) : 0 ≤ c ∧ c < 128 := by
  simp [charB, lowerB, digitB] at h
  omega
theorem pmF_congr {st st' : Nat → Bool} {h h' : Nat → Nat → Bool} : ∀ (i k : Nat), (∀ j, j < i → st j = st' j) → (∀ j l, j < i → l < k → h j l = h' j l) → pmF st h i k = pmF st' h' i k
  | 0, k, _, _ => rfl
  | i + 1, 0, h1, h2 => by
    rw [pmF_zero, pmF_zero, h1 i (by omega), pmF_congr i 0 (fun j hj => h1 j (by omega)) (fun j l hj hl => by omega)]
  | i + 1, k + 1, h1, h2 => by
    have a := pmF_congr i (k + 1) (fun j hj => h1 j (by omega)) (fun j l hj hl => h2 j l (by omega) hl)
    have b := pmF_congr (i + 1) k h1 (fun j l hj hl => h2 j l hj (by omega))
    have c := pmF_congr i k (fun j hj => h1 j (by omega)) (fun j l hj hl => h2 j l (by omega) (by omega))
    rw [pmF_succ, pmF_succ, h1 i (by omega), h2 i k (by omega) (by omega), a, b, c]
theorem pmF_dead {st : Nat → Bool} {h : Nat → Nat → Bool} {k0 : Nat} (hd : ∀ i, h i k0 = false) : ∀ (i k : Nat), k0 < k → pmF st h i k = false
  | 0, k, hk => by simp [pmF]; omega
  | i + 1, 0, hk => by omega
  | i + 1, k + 1, hk => by
    rw [pmF_succ, pmF_dead hd i (k + 1) hk]
    by_cases e : k = k0
    · subst e; rw [hd i]; simp
    · rw [pmF_dead hd (i + 1) k (by omega), pmF_dead hd i k (by omega)]; simp
def rS (rs : List RE) (j : Nat) : Bool := match rs[j]? with | some r => r.star | none => false
def rH (rs : List RE) (j c : Nat) : Bool := match rs[j]? with | some r => r.set c | none => false
/-- The reference's Match. -/
def rmatchB (rs : List RE) (s : ByteArray) : Bool := (List.range s.size).all (fun i => charB (at8 s i)) && pmF (rS rs) (fun i k => rS rs i || rH rs i (at8 s k).toNat) rs.length s.size
/-- Elements that agree, one by one. -/
structure RelEs (els : List El) (rs : List RE) : Prop where
  len : els.length = rs.length
  at_ : ∀ (j : Nat) (e : El) (r : RE), els[j]? = some e → rs[j]? = some r → RelE e r
theorem RelEs.snoc {els : List El} {rs : List RE} (h : RelEs els rs) {e : El} {r : RE} (hr : RelE e r) : RelEs (els ++ [e]) (rs ++ [r]) := by
  refine ⟨by simp [h.len], fun j e' r' he hr' => ?_⟩
  rw [List.getElem?_append] at he hr'
  rw [← h.len] at hr'
  split at he
  · rename_i hj
    rw [if_pos hj] at hr'
    exact h.at_ j _ _ he hr'
  · rename_i hj
    rw [if_neg hj] at hr'
    cases hjj : j - els.length with
    | zero => rw [hjj] at he hr'; simp at he hr'; subst he; subst hr'; exact hr
    | succ n => rw [hjj] at he; simp at he
theorem rel_match {els : List El} {rs : List RE} (h : RelEs els rs) (s : ByteArray) : matchB els s = rmatchB rs s := by
  rw [match_pm]
  unfold rmatchB
  cases ha : (List.range s.size).all (fun i => charB (at8 s i)) with
  | false =>
    rw [Bool.false_and]
    rw [List.all_eq_false] at ha
    obtain ⟨k0, hk0, hc⟩ := ha
    rw [List.mem_range] at hk0
    refine pmF_dead (k0 := k0) (fun i => ?_) _ _ hk0
    unfold elH
    cases he : els[i]? with
    | none => rfl
    | some e =>
      have hlt : i < rs.length := by rw [← h.len]; exact (List.getElem?_eq_some_iff.1 he).1
      have hr := h.at_ i e _ he (List.getElem?_eq_getElem hlt)
      simp only
      cases hh : hasB e.chars (at8 s k0) with
      | false => rfl
      | true => exact absurd (hr.char _ (at8_bd s k0).1 (at8_bd s k0).2 hh) hc
  | true =>
    rw [Bool.true_and, h.len]
    have hst : ∀ j, elS els j = rS rs j := fun j => by
      unfold elS rS
      rcases Nat.lt_or_ge j els.length with hj | hj
      · have hj' : j < rs.length := by rw [← h.len]; exact hj
        rw [List.getElem?_eq_getElem hj, List.getElem?_eq_getElem hj']
        exact (h.at_ j _ _ (List.getElem?_eq_getElem hj) (List.getElem?_eq_getElem hj')).star
      · rw [List.getElem?_eq_none hj, List.getElem?_eq_none (by rw [← h.len]; exact hj)]
    refine pmF_congr _ _ (fun j _ => hst j) (fun j l hj hl => ?_)
    have hc : charB (at8 s l) = true := List.all_eq_true.1 ha l (List.mem_range.2 hl)
    have hcb := charB_lt hc
    have hj0 : j < els.length := by rw [h.len]; exact hj
    have hr := h.at_ j _ _ (List.getElem?_eq_getElem hj0) (List.getElem?_eq_getElem hj)
    unfold elH rS rH
    rw [List.getElem?_eq_getElem hj0, List.getElem?_eq_getElem hj]
    simp only
    generalize els[j] = e at hr
    generalize rs[j] = r at hr
    cases hs : r.star with
    | true =>
      have : e = .star := by
        have h1 := hr.star
        rw [hs] at h1
        cases e <;> simp [El.isStar] at h1
        rfl
      subst this
      rw [Bool.true_or]
      show hasB nameBytes _ = true
      rw [name_char _ hcb.1 (by omega)]; exact hc
    | false =>
      rw [Bool.false_or]
      have := hr.set hs (at8 s l).toNat (by omega)
      rw [show (((at8 s l).toNat : Nat) : Int) = at8 s l by omega] at this
      exact this

/-- An entry of a list of the reference. -/
structure REnt where
  t : ByteArray
  rs : List RE
  v : Int
def rverd (es : List REnt) (s : ByteArray) : Int := es.foldl (fun a e => if rmatchB e.rs s = true then e.v else a) 0
structure RelEnt (e : Ent) (r : REnt) : Prop where
  t : e.t = r.t
  v : e.v = r.v
  els : RelEs e.els r.rs
structure RelEnts (es : List Ent) (rs : List REnt) : Prop where
  len : es.length = rs.length
  at_ : ∀ (j : Nat) (e : Ent) (r : REnt), es[j]? = some e → rs[j]? = some r → RelEnt e r
theorem RelEnts.snoc {es : List Ent} {rs : List REnt} (h : RelEnts es rs) {e : Ent} {r : REnt} (hr : RelEnt e r) : RelEnts (es ++ [e]) (rs ++ [r]) := by
  refine ⟨by simp [h.len], fun j e' r' he hr' => ?_⟩
  rw [List.getElem?_append] at he hr'
  rw [← h.len] at hr'
  split at he
  · rename_i hj
    rw [if_pos hj] at hr'
    exact h.at_ j _ _ he hr'
  · rename_i hj
    rw [if_neg hj] at hr'
    cases hjj : j - es.length with
    | zero => rw [hjj] at he hr'; simp at he hr'; subst he; subst hr'; exact hr
    | succ n => rw [hjj] at he; simp at he
theorem rel_verd {es : List Ent} {rs : List REnt} (h : RelEnts es rs) (s : ByteArray) : verd es s = rverd rs s := by
  have key : ∀ (es : List Ent) (rs : List REnt) (a : Int), RelEnts es rs → es.foldl (fun a e => if matchB e.els s = true then e.v else a) a = rs.foldl (fun a e => if rmatchB e.rs s = true then e.v else a) a := by
    intro es
    induction es with
    | nil =>
      intro rs a h
      have := h.len
      cases rs with
      | nil => rfl
      | cons r rs => simp at this
    | cons e es ih =>
      intro rs a h
      cases rs with
      | nil => have := h.len; simp at this
      | cons r rs =>
        have h0 := h.at_ 0 e r rfl rfl
        simp only [List.foldl_cons]
        rw [rel_match h0.els s, h0.v]
        exact ih rs _ ⟨by have := h.len; simp at this; exact this, fun j e' r' he hr => h.at_ (j + 1) e' r' (by simpa using he) (by simpa using hr)⟩
  exact key es rs 0 h
def rselB (es : List REnt) (zs : List ByteArray) : Bool := zs.all (fun z => !(rverd es z == 3)) && zs.any (fun z => rverd es z == 1)
theorem rel_sel {es : List Ent} {rs : List REnt} (h : RelEnts es rs) (zs : List ByteArray) : selB es zs = rselB rs zs := by
  unfold selB rselB
  simp only [rel_verd h]

/-! ### Parts of a text -/
theorem at8_byte {s : ByteArray} {k : Nat} (h : k < s.size) : s.data.toList[k]? = some (at8 s k).toNat.toUInt8 := by
  rw [at8_lt s k h, Array.getElem?_toList, Array.getElem?_eq_getElem (show k < s.data.size from h)]
  congr 1
  show s[k] = _
  rw [Int.toNat_natCast]
  simp
theorem indexByte_hit : ∀ (l : List UInt8) (c : UInt8) (i : Nat), l[i]? = some c → (∀ j, j < i → l[j]? ≠ some c) → Lib.indexByte l c = i
  | [], c, i, h, _ => by simp at h
  | b :: l, c, 0, h, _ => by simp at h; subst h; simp [Lib.indexByte]
  | b :: l, c, i + 1, h, hn => by
    have ih := indexByte_hit l c i (by simpa using h) (fun j hj => by have := hn (j + 1) (by omega); simpa using this)
    have hb : ¬ b = c := by have := hn 0 (by omega); simpa using this
    unfold Lib.indexByte
    simp only [ih]
    have : (b == c) = false := by simpa using hb
    simp [this]
theorem indexByte_miss : ∀ (l : List UInt8) (c : UInt8), (∀ j : Nat, l[j]? ≠ some c) → Lib.indexByte l c = -1
  | [], c, _ => rfl
  | b :: l, c, hn => by
    have ih := indexByte_miss l c (fun j => by have := hn (j + 1); simpa using this)
    have hb : ¬ b = c := by have := hn 0; simpa using this
    unfold Lib.indexByte
    have : (b == c) = false := by simpa using hb
    simp [ih, this]
theorem u8_44 {c : Int} (h0 : 0 ≤ c) (h1 : c ≤ 255) : (c.toNat.toUInt8 = 44) ↔ c = 44 := by
  have := byte_inj (c := 44) (d := c) (by omega) ⟨h0, h1⟩
  constructor
  · intro h
    have h2 : (c.toNat.toUInt8 == (44 : Int).toNat.toUInt8) = true := by rw [h]; rfl
    rw [this] at h2
    simpa using h2
  · rintro rfl; rfl
theorem get44 {s : ByteArray} {j : Nat} : s.data.toList[j]? = some 44 ↔ j < s.size ∧ at8 s j = 44 := by
  rcases Nat.lt_or_ge j s.size with h | h
  · rw [at8_byte h]
    simp only [Option.some.injEq, h, true_and]
    exact u8_44 (at8_bd s j).1 (at8_bd s j).2
  · have : s.data.toList[j]? = none := List.getElem?_eq_none (by simpa using h)
    rw [this]
    simp; omega
theorem parts_hit {s : ByteArray} {i : Nat} (hi : i < s.size) (h : at8 s i = 44) (hn : ∀ j, j < i → at8 s j ≠ 44) : partsS s = s.extract 0 i :: partsS (s.extract (i + 1) s.size) := by
  have hx : Lib.indexB s ⟨#[44]⟩ = i := by
    show Lib.index s.data.toList [44] = i
    rw [Lib.index_one]
    exact indexByte_hit _ _ _ (get44.2 ⟨hi, h⟩) (fun j hj hc => hn j hj (get44.1 hc).2)
  unfold partsS
  rw [Lib.countB_hit s ⟨#[44]⟩ i (by decide) hx, Nat.add_comm, Lib.splitB_hit _ _ _ _ i hx]
  rfl
theorem parts_miss {s : ByteArray} (hn : ∀ j, j < s.size → at8 s j ≠ 44) : partsS s = [s] := by
  have hx : Lib.indexB s ⟨#[44]⟩ = -1 := by
    show Lib.index s.data.toList [44] = -1
    rw [Lib.index_one]
    exact indexByte_miss _ _ (fun j hc => hn j (get44.1 hc).1 (get44.1 hc).2)
  unfold partsS
  exact Lib.splitB_miss _ _ _ _ hx
theorem at8_extract (s : ByteArray) (a b j : Nat) (h : a + j < b) (hb : b ≤ s.size) : at8 (s.extract a b) j = at8 s (a + j) := by
  have h1 : j < (s.extract a b).size := by rw [ByteArray.size_extract]; omega
  rw [at8_lt _ _ h1, at8_lt s (a + j) (by omega)]
  rw [ByteArray.getElem_extract h1]

end Go.Proofs.YtcpjajjocmpkjaaDoor

/- The formulas of functions by the symbolic evaluator, and that each gives the call's contract. Written by a program (gen.py). No condition. -/
namespace Go.Proofs.YtcpjajjocmpkjaaDoor
set_option maxRecDepth 100000
set_option linter.unusedVariables false

def VC_rclass (s : ByteArray) (at_ : Int) (w : World) (R : Ending → World → Prop) : Prop :=
 ∀ (n : Nat) (w1 : World),
 NewB w
 (Obj.cells
 #[Value.bool false, Value.bool false, Value.bool false, Value.bool false, Value.bool false, Value.bool false,
 Value.bool false, Value.bool false, Value.bool false, Value.bool false, Value.bool false, Value.bool false,
 Value.bool false, Value.bool false, Value.bool false, Value.bool false, Value.bool false, Value.bool false,
 Value.bool false, Value.bool false, Value.bool false, Value.bool false, Value.bool false, Value.bool false,
 Value.bool false, Value.bool false, Value.bool false, Value.bool false, Value.bool false, Value.bool false,
 Value.bool false, Value.bool false, Value.bool false, Value.bool false, Value.bool false, Value.bool false,
 Value.bool false, Value.bool false, Value.bool false, Value.bool false, Value.bool false, Value.bool false,
 Value.bool false, Value.bool false, Value.bool false, Value.bool false, Value.bool false, Value.bool false,
 Value.bool false, Value.bool false, Value.bool false, Value.bool false, Value.bool false, Value.bool false,
 Value.bool false, Value.bool false, Value.bool false, Value.bool false, Value.bool false, Value.bool false,
 Value.bool false, Value.bool false, Value.bool false, Value.bool false, Value.bool false, Value.bool false,
 Value.bool false, Value.bool false, Value.bool false, Value.bool false, Value.bool false, Value.bool false,
 Value.bool false, Value.bool false, Value.bool false, Value.bool false, Value.bool false, Value.bool false,
 Value.bool false, Value.bool false, Value.bool false, Value.bool false, Value.bool false, Value.bool false,
 Value.bool false, Value.bool false, Value.bool false, Value.bool false, Value.bool false, Value.bool false,
 Value.bool false, Value.bool false, Value.bool false, Value.bool false, Value.bool false, Value.bool false,
 Value.bool false, Value.bool false, Value.bool false, Value.bool false, Value.bool false, Value.bool false,
 Value.bool false, Value.bool false, Value.bool false, Value.bool false, Value.bool false, Value.bool false,
 Value.bool false, Value.bool false, Value.bool false, Value.bool false, Value.bool false, Value.bool false,
 Value.bool false, Value.bool false, Value.bool false, Value.bool false, Value.bool false, Value.bool false,
 Value.bool false, Value.bool false, Value.bool false, Value.bool false, Value.bool false, Value.bool false,
 Value.bool false, Value.bool false, Value.bool false]
 150)
 n w1 →
 ∀ (n_1 : Nat) (w1_1 : World),
 NewB w1
 (Obj.cells
 #[Value.bool false, Value.bool false, Value.bool false, Value.bool false, Value.bool false, Value.bool false,
 Value.bool false, Value.bool false, Value.bool false, Value.bool false, Value.bool false, Value.bool false,
 Value.bool false, Value.bool false, Value.bool false, Value.bool false, Value.bool false, Value.bool false,
 Value.bool false, Value.bool false, Value.bool false, Value.bool false, Value.bool false, Value.bool false,
 Value.bool false, Value.bool false, Value.bool false, Value.bool false, Value.bool false, Value.bool false,
 Value.bool false, Value.bool false, Value.bool false, Value.bool false, Value.bool false, Value.bool false,
 Value.bool false, Value.bool false, Value.bool false, Value.bool false, Value.bool false, Value.bool false,
 Value.bool false, Value.bool false, Value.bool false, Value.bool false, Value.bool false, Value.bool false,
 Value.bool false, Value.bool false, Value.bool false, Value.bool false, Value.bool false, Value.bool false,
 Value.bool false, Value.bool false, Value.bool false, Value.bool false, Value.bool false, Value.bool false,
 Value.bool false, Value.bool false, Value.bool false, Value.bool false, Value.bool false, Value.bool false,
 Value.bool false, Value.bool false, Value.bool false, Value.bool false, Value.bool false, Value.bool false,
 Value.bool false, Value.bool false, Value.bool false, Value.bool false, Value.bool false, Value.bool false,
 Value.bool false, Value.bool false, Value.bool false, Value.bool false, Value.bool false, Value.bool false,
 Value.bool false, Value.bool false, Value.bool false, Value.bool false, Value.bool false, Value.bool false,
 Value.bool false, Value.bool false, Value.bool false, Value.bool false, Value.bool false, Value.bool false,
 Value.bool false, Value.bool false, Value.bool false, Value.bool false, Value.bool false, Value.bool false,
 Value.bool false, Value.bool false, Value.bool false, Value.bool false, Value.bool false, Value.bool false,
 Value.bool false, Value.bool false, Value.bool false, Value.bool false, Value.bool false, Value.bool false,
 Value.bool false, Value.bool false, Value.bool false, Value.bool false, Value.bool false, Value.bool false,
 Value.bool false, Value.bool false, Value.bool false, Value.bool false, Value.bool false, Value.bool false,
 Value.bool false, Value.bool false, Value.bool false]
 150)
 n_1 w1_1 →
 gimp (decide (IntKind.i64.wrap (at_ + 1) < (↑s.size : Int)))
 (0 ≤ IntKind.i64.wrap (at_ + 1) ∧ IntKind.i64.wrap (at_ + 1) < (↑s.size : Int)) ∧
 ∃ (J : List Value → World → Prop),
 bsp (decide (IntKind.i64.wrap (at_ + 1) < (↑s.size : Int)) && at8 s (IntKind.i64.wrap (at_ + 1)).toNat == 94)
 (J [Value.int IntKind.i64 (IntKind.i64.wrap (IntKind.i64.wrap (at_ + 1) + 1))] w1_1)
 (J [Value.int IntKind.i64 (IntKind.i64.wrap (at_ + 1))] w1_1) ∧
 ∀ (x : Int) (w' : World),
 J [Value.int IntKind.i64 x] w' →
 ∃ (I : List Value → World → Prop),
 ∃ (m : List Value → World → Nat),
 I [Value.int IntKind.i64 x] w' ∧
 ∀ (x_1 : Int) (w' : World),
 I [Value.int IntKind.i64 x_1] w' →
 gimp (decide (x_1 < (↑s.size : Int))) (0 ≤ x_1 ∧ x_1 < (↑s.size : Int)) ∧
 bsp (decide (x_1 < (↑s.size : Int)) && at8 s x_1.toNat != 93)
 ((0 ≤ x_1 ∧ x_1 < (↑s.size : Int)) ∧
 bsp (!charB (at8 s x_1.toNat) || at8 s x_1.toNat == 45 && decide (x_1 > x))
 (∃ (x : Bool),
 ∃ (f : Nat → Bool),
 AtL w' n_1 0
 ([Value.bool x] ++ arrBo f 128 0) ∧
 WrL w' n 0 129 ∧
 ∀ (w1 : World),
 PutB w' n 0
 ([Value.bool x] ++ arrBo f 128 0)
 w1 →
 ∃ (x : Bool),
 ∃ (f : Nat → Bool),
 AtL w1 n 0
 ([Value.bool x] ++ arrBo f 128 0) ∧
 R
 (Ending.returned
 (Value.tuple
 #[Value.agg
 ([Value.bool x] ++ arrBo f 128 0).toArray,
 Value.int IntKind.i64 (-1)]))
 w1)
 (gimp (at8 s x_1.toNat != 45 && decide (IntKind.i64.wrap (x_1 + 1) < (↑s.size : Int)))
 (0 ≤ IntKind.i64.wrap (x_1 + 1) ∧ IntKind.i64.wrap (x_1 + 1) < (↑s.size : Int)) ∧
 bsp
 (at8 s x_1.toNat != 45 && decide (IntKind.i64.wrap (x_1 + 1) < (↑s.size : Int)) &&
 at8 s (IntKind.i64.wrap (x_1 + 1)).toNat == 45)
 (gimp (!(decide (IntKind.i64.wrap (x_1 + 2) ≥ (↑s.size : Int)) || alnumI (at8 s x_1.toNat) == 0))
 (0 ≤ IntKind.i64.wrap (x_1 + 2) ∧ IntKind.i64.wrap (x_1 + 2) < (↑s.size : Int)) ∧
 gimp
 (!(decide (IntKind.i64.wrap (x_1 + 2) ≥ (↑s.size : Int)) || alnumI (at8 s x_1.toNat) == 0 ||
 alnumI (at8 s (IntKind.i64.wrap (x_1 + 2)).toNat) != alnumI (at8 s x_1.toNat)))
 (0 ≤ IntKind.i64.wrap (x_1 + 2) ∧ IntKind.i64.wrap (x_1 + 2) < (↑s.size : Int)) ∧
 bsp
 (decide (IntKind.i64.wrap (x_1 + 2) ≥ (↑s.size : Int)) || alnumI (at8 s x_1.toNat) == 0 ||
 alnumI (at8 s (IntKind.i64.wrap (x_1 + 2)).toNat) != alnumI (at8 s x_1.toNat) ||
 decide (at8 s (IntKind.i64.wrap (x_1 + 2)).toNat < at8 s x_1.toNat))
 (∃ (x : Bool),
 ∃ (f : Nat → Bool),
 AtL w' n_1 0
 ([Value.bool x] ++ arrBo f 128 0) ∧
 WrL w' n 0 129 ∧
 ∀ (w1 : World),
 PutB w' n 0
 ([Value.bool x] ++ arrBo f 128 0)
 w1 →
 ∃ (x : Bool),
 ∃ (f : Nat → Bool),
 AtL w1 n 0
 ([Value.bool x] ++ arrBo f 128 0) ∧
 R
 (Ending.returned
 (Value.tuple
 #[Value.agg
 ([Value.bool x] ++ arrBo f 128 0).toArray,
 Value.int IntKind.i64 (-1)]))
 w1)
 (∃ (I_1 : List Value → World → Prop),
 ∃ (m_1 : List Value → World → Nat),
 I_1 [Value.int IntKind.i64 (IntKind.i64.wrap (at8 s x_1.toNat))] w' ∧
 ∀ (x : Int) (w'_1 : World),
 I_1 [Value.int IntKind.i64 x] w'_1 →
 (0 ≤ IntKind.i64.wrap (x_1 + 2) ∧ IntKind.i64.wrap (x_1 + 2) < (↑s.size : Int)) ∧
 bsp (decide (x ≤ IntKind.i64.wrap (at8 s (IntKind.i64.wrap (x_1 + 2)).toNat)))
 ((0 ≤ x ∧ x < (↑128 : Int)) ∧
 ((∃ (u : Value), w'_1.cell? (Addr.mk n_1 (0 + 1 + x.toNat) none) = some u) ∧
 w'_1.frozen? (Addr.mk n_1 (0 + 1 + x.toNat) none) = false) ∧
 ∀ (w1 : World),
 PutB w'_1 n_1 (0 + 1 + x.toNat) [Value.bool true] w1 →
 I_1 [Value.int IntKind.i64 (IntKind.i64.wrap (x + 1))] w1 ∧
 m_1 [Value.int IntKind.i64 (IntKind.i64.wrap (x + 1))] w1 <
 m_1 [Value.int IntKind.i64 x] w'_1)
 (I [Value.int IntKind.i64 (IntKind.i64.wrap (x_1 + 3))] w'_1 ∧
 m [Value.int IntKind.i64 (IntKind.i64.wrap (x_1 + 3))] w'_1 <
 m [Value.int IntKind.i64 x_1] w')))
 ((0 ≤ at8 s x_1.toNat ∧ at8 s x_1.toNat < (↑128 : Int)) ∧
 ((∃ (u : Value), w'.cell? (Addr.mk n_1 (0 + 1 + (at8 s x_1.toNat).toNat) none) = some u) ∧
 w'.frozen? (Addr.mk n_1 (0 + 1 + (at8 s x_1.toNat).toNat) none) = false) ∧
 ∀ (w1 : World),
 PutB w' n_1 (0 + 1 + (at8 s x_1.toNat).toNat) [Value.bool true] w1 →
 I [Value.int IntKind.i64 (IntKind.i64.wrap (x_1 + 1))] w1 ∧
 m [Value.int IntKind.i64 (IntKind.i64.wrap (x_1 + 1))] w1 < m [Value.int IntKind.i64 x_1] w')))
 (bsp (decide (x_1 ≥ (↑s.size : Int)) || x_1 == x)
 (∃ (x : Bool),
 ∃ (f : Nat → Bool),
 AtL w' n_1 0
 ([Value.bool x] ++ arrBo f 128 0) ∧
 WrL w' n 0 129 ∧
 ∀ (w1 : World),
 PutB w' n 0
 ([Value.bool x] ++ arrBo f 128 0)
 w1 →
 ∃ (x : Bool),
 ∃ (f : Nat → Bool),
 AtL w1 n 0
 ([Value.bool x] ++ arrBo f 128 0) ∧
 R
 (Ending.returned
 (Value.tuple
 #[Value.agg
 ([Value.bool x] ++ arrBo f 128 0).toArray,
 Value.int IntKind.i64 (-1)]))
 w1)
 (∃ (J : List Value → World → Prop),
 bsp
 (decide (IntKind.i64.wrap (at_ + 1) < (↑s.size : Int)) &&
 at8 s (IntKind.i64.wrap (at_ + 1)).toNat == 94)
 (∃ (I : List Value → World → Prop),
 ∃ (m : List Value → World → Nat),
 I [Value.int IntKind.i64 0] w' ∧
 ∀ (x : Int) (w' : World),
 I [Value.int IntKind.i64 x] w' →
 bsp (decide (x < 128))
 (gimp (charB (IntKind.u8.wrap x)) (0 ≤ x ∧ x < (↑128 : Int)) ∧
 ∃ (x_2 : Bool),
 gimp (charB (IntKind.u8.wrap x))
 (w'.cell? (Addr.mk n_1 (0 + 1 + x.toNat) none) = some (Value.bool x_2)) ∧
 (0 ≤ x ∧ x < (↑128 : Int)) ∧
 ((∃ (u : Value), w'.cell? (Addr.mk n_1 (0 + 1 + x.toNat) none) = some u) ∧
 w'.frozen? (Addr.mk n_1 (0 + 1 + x.toNat) none) = false) ∧
 ∀ (w1 : World),
 PutB w' n_1 (0 + 1 + x.toNat) [Value.bool (charB (IntKind.u8.wrap x) && !x_2)] w1 →
 I [Value.int IntKind.i64 (IntKind.i64.wrap (x + 1))] w1 ∧
 m [Value.int IntKind.i64 (IntKind.i64.wrap (x + 1))] w1 <
 m [Value.int IntKind.i64 x] w')
 (J [] w'))
 (J [] w') ∧
 ∀ (w' : World),
 J [] w' →
 ∃ (x : Bool),
 ∃ (f : Nat → Bool),
 AtL w' n_1 0
 ([Value.bool x] ++ arrBo f 128 0) ∧
 WrL w' n 0 129 ∧
 ∀ (w1 : World),
 PutB w' n 0
 ([Value.bool x] ++ arrBo f 128 0)
 w1 →
 ∃ (x : Bool),
 ∃ (f : Nat → Bool),
 AtL w1 n 0
 ([Value.bool x] ++ arrBo f 128 0) ∧
 R
 (Ending.returned
 (Value.tuple
 #[Value.agg
 ([Value.bool x] ++ arrBo f 128 0).toArray,
 Value.int IntKind.i64 (IntKind.i64.wrap (x_1 + 1))]))
 w1))
theorem vc_rclass (s : ByteArray) (at_ : Int) (w : World) (R : Ending → World → Prop) (h : VC_rclass s at_ w R) : Calls Tryd.prog 72 ([Value.string
    s,
  Value.int IntKind.i64 at_] : List Value).toArray w R := by
  have e : execR { P := Tryd.prog, loops := [(7, [(7, Ck.int IntKind.i64)]), (15, [(11, Ck.int IntKind.i64)]), (25, [(12, Ck.int IntKind.i64)])], pur := pur1, tails := [], joins := [(6, [(7, Ck.int IntKind.i64)]), (28, [])], boxes := [] } Tryd.f72.results.toList R (Tryd.f72.body.getD .skip) (initF [Value.string
    s,
  Value.int IntKind.i64
    at_] (Tryd.f72.ntmps - ([Value.string s,
  Value.int IntKind.i64 at_] : List Value).length)) w = VC_rclass s at_ w R := by kernel_rfl
  have hb : Tryd.f72.body = some (Tryd.f72.body.getD .skip) := by kernel_rfl
  exact calls_of_exec' (P := Tryd.prog) (fn := Tryd.f72) (c := Tryd.f72.body.getD .skip) (args := [Value.string s,
  Value.int IntKind.i64 at_]) (w := w) (R := R) pur1_ok Tryd.func72 hb e h

end Go.Proofs.YtcpjajjocmpkjaaDoor

/- The contract of the reference's class: it agrees with the program's parseClass. The text has at most 2^20 bytes. -/
namespace Go.Proofs.YtcpjajjocmpkjaaDoor
open Go.RowKit

theorem arrBo_length (f : Nat → Bool) : ∀ n i, (arrBo f n i).length = n
  | 0, _ => rfl
  | n + 1, i => by simp [arrBo, arrBo_length f n]
theorem arrBo_get (f : Nat → Bool) : ∀ (n i j : Nat), j < n → (arrBo f n i)[j]? = some (.bool (f (i + j)))
  | 0, _, j, h => by omega
  | n + 1, i, 0, _ => by simp [arrBo]
  | n + 1, i, j + 1, h => by
    simp only [arrBo, List.getElem?_cons_succ]
    rw [arrBo_get f n (i + 1) j (by omega)]
    congr 3; omega
theorem arrBo_none (f : Nat → Bool) (n i j : Nat) (h : n ≤ j) : (arrBo f n i)[j]? = none := List.getElem?_eq_none (by rw [arrBo_length]; exact h)
theorem arrBo_congr {f g : Nat → Bool} {n i : Nat} (h : ∀ j, j < n → f (i + j) = g (i + j)) : arrBo f n i = arrBo g n i := by
  apply List.ext_getElem?
  intro j
  rcases Nat.lt_or_ge j n with hj | hj
  · rw [arrBo_get f n i j hj, arrBo_get g n i j hj, h j hj]
  · rw [arrBo_none f n i j hj, arrBo_none g n i j hj]
theorem arrBo_set (f : Nat → Bool) (n k : Nat) (b : Bool) : (arrBo f n 0).set k (.bool b) = arrBo (fun j => if j = k then b else f j) n 0 := by
  apply List.ext_getElem?
  intro j
  rcases Nat.lt_or_ge j n with hj | hj
  · rw [List.getElem?_set, arrBo_length, arrBo_get _ n 0 j hj, arrBo_get _ n 0 j hj, Nat.zero_add]
    by_cases e : k = j
    · subst e; rw [if_pos rfl, if_pos hj, if_pos rfl]
    · rw [if_neg e, if_neg (fun h => e h.symm)]
  · rw [arrBo_none _ n 0 j hj, List.getElem?_eq_none (by rw [List.length_set, arrBo_length]; exact hj)]
/-- The cells of an element of the reference. -/
def reL (b : Bool) (f : Nat → Bool) : List Value := [Value.bool b] ++ arrBo f 128 0
theorem reL_length (b : Bool) (f : Nat → Bool) : (reL b f).length = 129 := by unfold reL; simp [arrBo_length]
def SetB (w : World) (n : Nat) (b : Bool) (f : Nat → Bool) : Prop := w.heap[n]? = some (.cells (reL b f).toArray 150 (0, 0))
theorem SetB.kp {M : Nat → Prop} {w w' : World} {n : Nat} {b : Bool} {f : Nat → Bool} (h : SetB w n b f) (hk : Kp M w w') (hm : ¬ M n) : SetB w' n b f := hk.blk h hm
theorem SetB.congr {w : World} {n : Nat} {b : Bool} {f g : Nat → Bool} (h : SetB w n b f) (e : ∀ c, c < 128 → f c = g c) : SetB w n b g := by
  unfold SetB at h ⊢
  rw [h]
  unfold reL
  rw [arrBo_congr (f := f) (g := g) (fun j hj => by rw [Nat.zero_add]; exact e j hj)]
theorem SetB.at_ {w : World} {n : Nat} {b : Bool} {f : Nat → Bool} (h : SetB w n b f) : AtL w n 0 ([Value.bool b] ++ arrBo f 128 0) := by
  refine AtL_block h ?_
  simp [reL]
theorem SetB.cell {w : World} {n : Nat} {b : Bool} {f : Nat → Bool} (h : SetB w n b f) {k : Nat} (hk : k < 128) : w.cell? ⟨n, 0 + 1 + k, none⟩ = some (.bool (f k)) := by
  refine cell_at h ?_
  rw [show 0 + 1 + k = k + 1 by omega]
  simp [reL, arrBo_get f 128 0 k hk]
theorem SetB.wr {w : World} {n : Nat} {b : Bool} {f : Nat → Bool} (h : SetB w n b f) {k : Nat} (hk : k < 128) : (∃ u, w.cell? ⟨n, 0 + 1 + k, none⟩ = some u) ∧ w.frozen? ⟨n, 0 + 1 + k, none⟩ = false := ⟨⟨_, h.cell hk⟩, frozen_block h _⟩
theorem SetB.wrl {w : World} {n : Nat} {b : Bool} {f : Nat → Bool} (h : SetB w n b f) : WrL w n 0 129 := WrL_block h (by simp [reL_length])
theorem SetB.put {w w1 : World} {n : Nat} {b : Bool} {f : Nat → Bool} (h : SetB w n b f) {k : Nat} {v : Bool} (hp : PutB w n (0 + 1 + k) [.bool v] w1) : SetB w1 n b (fun j => if j = k then v else f j) := by
  have := hp.block h
  unfold SetB
  rw [this]
  congr 2
  rw [show 0 + 1 + k = k + 1 by omega]
  simp only [putL, reL, List.cons_append, List.nil_append, List.set_cons_succ, arrBo_set]
theorem SetB.full {w w1 : World} {n : Nat} {b b' : Bool} {f f' : Nat → Bool} (h : SetB w n b f) (hp : PutB w n 0 ([Value.bool b'] ++ arrBo f' 128 0) w1) : SetB w1 n b' f' := hp.full h (by simp [reL, arrBo_length])
theorem setB_new {w w1 : World} {n : Nat} {cs : Array Value} (hc : cs = (reL false (fun _ => false)).toArray) (h : NewB w (.cells cs 150) n w1) : SetB w1 n false (fun _ => false) := by
  subst hc; exact h.block

theorem hasPrefix_cons2 (a b : UInt8) (r : List UInt8) : Lib.hasPrefix (a :: b :: r) [91, 94] = (a == 91 && b == 94) := by
  rw [Bool.eq_iff_iff]
  simp [Lib.hasPrefix, List.isPrefixOf]
  constructor <;> (rintro ⟨rfl, rfl⟩; exact ⟨rfl, rfl⟩)
theorem negB_eq {t : ByteArray} (h0 : 0 < t.size) (h : at8 t 0 = 91) : negB t = (decide (1 < t.size) && at8 t 1 == 94) := by
  unfold negB
  have g0 := at8_byte h0
  rw [h] at g0
  have hl : t.data.toList.length = t.size := t.data.length_toList
  cases hd : t.data.toList with
  | nil => rw [hd] at hl; simp at hl; omega
  | cons a r =>
    rw [hd] at g0 hl
    simp at g0
    subst g0
    cases r with
    | nil =>
      have : ¬ 1 < t.size := by simp at hl; omega
      simp [this, Lib.hasPrefix]
    | cons b r =>
      have h1 : 1 < t.size := by simp at hl; omega
      have g1 := at8_byte h1
      rw [hd] at g1
      simp at g1
      rw [hasPrefix_cons2, g1]
      have := byte_inj (c := 94) (d := at8 t 1) (by omega) (at8_bd t 1)
      have e : ((94 : Int).toNat.toUInt8) = (94 : UInt8) := rfl
      rw [e] at this
      rw [this]
      simp [h1, Bool.beq_eq_decide_eq]
theorem items_stop {u : ByteArray} {f j : Nat} {p : Int → Bool} (h1 : rngB u j = false) (h2 : singB u j = false) : itemsS u f j p = (p, j) := by
  cases f with
  | zero => rfl
  | succ f => unfold itemsS; simp [h1, h2]
theorem cls0 {t : ByteArray} {j : Nat} (h : (listS t).2 = j) (h' : j = 0 ∨ fromN t + j = t.size ∨ at8 t (fromN t + j) ≠ 93) : clsN t = 0 := by
  unfold clsN
  rw [h, if_pos h']
theorem alB_char {c : Int} (h : alB c = true) : charB c = true := by simp [alB] at h; simp [charB]; rcases h with h | h <;> simp [h]
theorem not_alB {c : Int} (h : c = 45 ∨ c = 93) : alB c = false := by rcases h with rfl | rfl <;> decide
theorem alnum_zero {c : Int} : (alnumI c == 0) = !alB c := by
  unfold alnumI alB
  cases lowerB c <;> cases digitB c <;> simp
theorem alnum_bad {c l : Int} (hc : alB c = true) : (alnumI l != alnumI c || decide (l < c)) = badB c l := by
  unfold badB
  have : (alnumI l != alnumI c) = (lowerB c != lowerB l || digitB c != digitB l) := by
    unfold alnumI
    have hx : ∀ x : Int, ¬ (lowerB x = true ∧ digitB x = true) := fun x ⟨h1, h2⟩ => by simp [lowerB] at h1; simp [digitB] at h2; omega
    have h1 := hx c
    have h2 := hx l
    unfold alB at hc
    cases hlc : lowerB c <;> cases hdc : digitB c <;> cases hll : lowerB l <;> cases hdl : digitB l <;> simp_all
  rw [this]
  cases decide (l < c) <;> simp
theorem alB_mid {c l d : Int} (hc : alB c = true) (hb : badB c l = false) (h1 : c ≤ d) (h2 : d ≤ l) : charB d = true := by
  simp [badB] at hb
  obtain ⟨⟨_, h3⟩, h4⟩ := hb
  simp [alB] at hc
  rcases hc with hc | hc
  · rw [hc] at h3
    simp [lowerB] at hc h3
    simp [charB, lowerB]
    omega
  · rw [hc] at h4
    simp [digitB] at hc h4
    simp [charB, lowerB, digitB]
    omega
theorem sing_char {u : ByteArray} {j : Nat} (h : charB (at8 u j) = true) (h' : ¬ (at8 u j = 45 ∧ 0 < j)) : singB u j = true := by
  unfold singB
  simp [charB] at h
  simp [alB]
  grind
theorem sing_not {u : ByteArray} {j : Nat} (h : charB (at8 u j) = false ∨ (at8 u j = 45 ∧ 0 < j)) : singB u j = false ∧ rngB u j = false := by
  have hal : alB (at8 u j) = false := by
    rcases h with h | h
    · cases ha : alB (at8 u j) with
      | false => rfl
      | true => rw [alB_char ha] at h; cases h
    · exact not_alB (.inl h.1)
  refine ⟨?_, by unfold rngB; rw [hal]; rfl⟩
  unfold singB
  rw [hal]
  rcases h with h | h
  · simp [charB] at h
    simp
    omega
  · rw [h.1]
    simp
    omega
theorem hasB_filter (q : UInt8 → Bool) (c : Int) (h0 : 0 ≤ c) (h1 : c ≤ 255) : hasB ⟨(nameBytes.data.toList.filter q).toArray⟩ c = (charB c && q c.toNat.toUInt8) := by
  rw [← name_char c h0 h1]
  unfold hasB
  simp only
  rw [Bool.eq_iff_iff]
  simp only [List.contains_iff_mem, Bool.and_eq_true, List.mem_filter]

set_option maxHeartbeats 1000000 in
set_option maxRecDepth 100000 in
theorem rclass_any (s : ByteArray) (k : Nat) (w : World) (hk : k < s.size) (h91 : at8 s k = 91) (hs : s.size ≤ 1048576) :
    Calls Tryd.prog 72 #[.string s, .int .i64 k] w fun e w' => K0 w w' ∧
      ((clsN (s.extract k s.size) = 0 ∧ ∃ b f, e = .returned (.tuple #[.agg (reL b f).toArray, .int .i64 (-1)])) ∨
       (clsN (s.extract k s.size) ≠ 0 ∧ ∃ f, e = .returned (.tuple #[.agg (reL false f).toArray, .int .i64 (k + clsN (s.extract k s.size) : Nat)]) ∧ RelE (.cls (clsS (s.extract k s.size))) ⟨false, f⟩)) := by
  generalize ht : s.extract k s.size = t
  have tsz : t.size = s.size - k := by rw [← ht, ByteArray.size_extract]; omega
  have tat : ∀ j, j < t.size → at8 t j = at8 s (k + j) := fun j hj => by rw [← ht]; exact at8_extract s k s.size j (by omega) (Nat.le_refl _)
  have t0 : at8 t 0 = 91 := by rw [tat 0 (by omega)]; exact h91
  have hneg := negB_eq (t := t) (by omega) t0
  refine vc_rclass s k w _ ?_
  intro n w1 hn n1 w2 hn1
  have b1 : SetB w2 n false (fun _ => false) := (setB_new (by kernel_rfl) hn).kp (hn1.kp (fun _ => False)) (fun h => h)
  have b2 : SetB w2 n1 false (fun _ => false) := setB_new (by kernel_rfl) hn1
  have hne : n ≠ n1 := by have := hn.size; have := hn1.hn; omega
  have g1 : w.heap.size ≤ n := hn.ge
  have g2 : w.heap.size ≤ n1 := by have := hn.size; have := hn1.hn; omega
  have k2 : K0 w w2 := (hn.kp _).trans (hn1.kp _)
  rw [wr64 (x := (k : Int) + 1) (by omega) (by omega), wr64 (x := (k : Int) + 1 + 1) (by omega) (by omega)]
  have e1 : ((k : Int) + 1).toNat = k + 1 := by omega
  rw [e1]
  -- the sign of the class
  have hsg : (decide ((k : Int) + 1 < (s.size : Int)) && at8 s (k + 1) == 94) = negB t := by
    rw [hneg]
    by_cases h : 1 < t.size
    · rw [tat 1 h]
      have h1 : decide ((k : Int) + 1 < (s.size : Int)) = true := by simp; omega
      rw [h1]
      simp [h]
    · have h1 : decide ((k : Int) + 1 < (s.size : Int)) = false := by simp; omega
      rw [h1]
      simp [h]
  rw [hsg]
  refine ⟨gimp_intro fun h => ⟨by omega, by simpa using h⟩, fun vs w' => vs = [.int .i64 ((k + fromN t : Nat) : Int)] ∧ w' = w2, ?_, ?_⟩
  · refine bsp_intro (fun h => ⟨?_, rfl⟩) (fun h => ⟨?_, rfl⟩)
    · unfold fromN; rw [if_pos h]; congr 2
    · unfold fromN; rw [if_neg (by rw [h]; decide)]; congr 2
  rintro x w' ⟨hx, rfl⟩
  have hx : x = ((k + fromN t : Nat) : Int) := by simpa using hx
  subst hx
  have hfrom : fromN t ≤ t.size := by
    unfold fromN
    split
    · rename_i h; exact hasPrefix_size h
    · omega
  have hfrom1 : 1 ≤ fromN t := by unfold fromN; split <;> omega
  generalize hu : restB t = u
  have usz : u.size = t.size - fromN t := by rw [← hu]; unfold restB; rw [ByteArray.size_extract]; omega
  have uat : ∀ j, j < u.size → at8 u j = at8 s (k + fromN t + j) := fun j hj => by
    rw [← hu]; unfold restB
    rw [at8_extract t _ _ j (by omega) (Nat.le_refl _), tat _ (by omega), Nat.add_assoc]
  have utat : ∀ j, j < u.size → at8 t (fromN t + j) = at8 u j := fun j hj => by rw [uat j hj, tat _ (by omega), Nat.add_assoc]
  have hL : listS t = itemsS u u.size 0 (fun _ => false) := by unfold listS; rw [hu]
  generalize hfr : fromN t = fr at *
  have bad : ∀ (wx : World) (f : Nat → Bool), SetB wx n1 false f → SetB wx n false (fun _ => false) → K0 w wx → clsN t = 0 →
      ∃ (x : Bool) (f : Nat → Bool), AtL wx n1 0 ([Value.bool x] ++ arrBo f 128 0) ∧ WrL wx n 0 129 ∧ ∀ (w1 : World), PutB wx n 0 ([Value.bool x] ++ arrBo f 128 0) w1 →
        ∃ (x : Bool) (f : Nat → Bool), AtL w1 n 0 ([Value.bool x] ++ arrBo f 128 0) ∧ (K0 w w1 ∧ ((clsN t = 0 ∧ ∃ b g, Ending.returned (.tuple #[.agg ([Value.bool x] ++ arrBo f 128 0).toArray, .int .i64 (-1)]) = .returned (.tuple #[.agg (reL b g).toArray, .int .i64 (-1)])) ∨
          (clsN t ≠ 0 ∧ ∃ g, Ending.returned (.tuple #[.agg ([Value.bool x] ++ arrBo f 128 0).toArray, .int .i64 (-1)]) = .returned (.tuple #[.agg (reL false g).toArray, .int .i64 (k + clsN t : Nat)]) ∧ RelE (.cls (clsS t)) ⟨false, g⟩))) := fun wx f h1 h2 hkx h0 =>
    ⟨false, f, h1.at_, h2.wrl, fun wy hp => ⟨false, f, (h2.full hp).at_, hkx.fresh hp.kp (fun i hi e => by omega), .inl ⟨h0, false, f, rfl⟩⟩⟩
  refine ⟨fun vs wx => ∃ (j fl : Nat) (f : Nat → Bool) (p : Int → Bool), vs = [.int .i64 ((k + fr + j : Nat) : Int)] ∧ j ≤ u.size ∧ u.size - j ≤ fl ∧ itemsS u fl j p = listS t ∧ SetB wx n1 false f ∧ SetB wx n false (fun _ => false) ∧ (∀ c : Nat, c < 128 → f c = p c) ∧ (∀ c, p c = true → charB c = true) ∧ K0 w wx,
    fun vs _ => (match vs with | .int _ x :: _ => s.size + 4 - x.toNat | _ => 0), ⟨0, u.size, _, (fun _ => false), rfl, by omega, by omega, hL.symm, b2, b1, (fun _ _ => rfl), (fun _ h => by cases h), k2⟩, ?_⟩
  rintro x wx ⟨j, fl, f, p, hv, hj, hfl, hS, hb, hb0, hfp, hpc, hkx⟩
  have hv : x = ((k + fr + j : Nat) : Int) := by simpa using hv
  subst hv
  have hsz : s.size = k + fr + u.size := by omega
  have ej : (((k + fr + j : Nat) : Int)).toNat = k + fr + j := Int.toNat_natCast _
  rw [ej]
  refine ⟨gimp_intro fun h => ⟨by omega, by simpa using h⟩, bsp_intro (fun h => ?_) (fun h => ?_)⟩
  · have hlt : j < u.size := by simp at h; omega
    have h93 : at8 s (k + fr + j) ≠ 93 := by simp at h; exact h.2
    rw [← uat j hlt] at h93 ⊢
    obtain ⟨fl, rfl⟩ : ∃ g, fl = g + 1 := ⟨fl - 1, by omega⟩
    refine ⟨⟨by omega, by omega⟩, bsp_intro (fun hc => ?_) (fun hc => ?_)⟩
    · refine bad wx f hb hb0 hkx ?_
      have hc : charB (at8 u j) = false ∨ (at8 u j = 45 ∧ 0 < j) := by
        simp only [Bool.or_eq_true, Bool.not_eq_true', Bool.and_eq_true, beq_iff_eq, decide_eq_true_eq] at hc
        rcases hc with h | h
        · exact .inl h
        · exact .inr ⟨h.1, by omega⟩
      obtain ⟨q1, q2⟩ := sing_not hc
      rw [items_stop q2 q1] at hS
      refine cls0 (j := j) (by rw [← hS]) (.inr (.inr ?_))
      rw [hfr, utat j hlt]; exact h93
    have hch : charB (at8 u j) = true := by
      cases hx : charB (at8 u j) with
      | true => rfl
      | false => rw [hx] at hc; simp at hc
    have hd : ¬ (at8 u j = 45 ∧ 0 < j) := fun hx => by
      rw [hch] at hc
      simp only [Bool.not_true, Bool.false_or, Bool.and_eq_false_iff, beq_eq_false_iff_ne, decide_eq_false_iff_not] at hc
      rcases hc with h | h
      · exact h hx.1
      · exact h (by omega)
    have hsing := sing_char hch hd
    rw [wr64 (x := ((k + fr + j : Nat) : Int) + 1) (by omega) (by omega), wr64 (x := ((k + fr + j : Nat) : Int) + 2) (by omega) (by omega), wr64 (x := ((k + fr + j : Nat) : Int) + 3) (by omega) (by omega)]
    have ej1 : (((k + fr + j : Nat) : Int) + 1).toNat = k + fr + (j + 1) := by omega
    have ej2 : (((k + fr + j : Nat) : Int) + 2).toNat = k + fr + (j + 2) := by omega
    rw [ej1, ej2]
    refine ⟨gimp_intro fun h => ⟨by omega, by simp at h; omega⟩, bsp_intro (fun hr => ?_) (fun hr => ?_)⟩
    · simp only [Bool.and_eq_true, bne_iff_ne, ne_eq, decide_eq_true_eq, beq_iff_eq] at hr
      obtain ⟨⟨hn45, hlt1⟩, h45⟩ := hr
      have hlt1 : j + 1 < u.size := by omega
      rw [← uat (j + 1) hlt1] at h45
      refine ⟨gimp_intro fun h => ⟨by omega, by simp at h; omega⟩, gimp_intro fun h => ⟨by omega, by simp at h; omega⟩, bsp_intro (fun hbd => ?_) (fun hbd => ?_)⟩
      · refine bad wx f hb hb0 hkx ?_
        by_cases hrn : rngB u j = true
        · have hrn' := hrn
          simp only [rngB, Bool.and_eq_true, decide_eq_true_eq, beq_iff_eq] at hrn
          have hbb : badB (at8 u j) (at8 u (j + 2)) = true := by
            have h2 : decide (((k + fr + j : Nat) : Int) + 2 ≥ (s.size : Int)) = false := by simp; omega
            rw [h2, alnum_zero, hrn.1.1, ← uat (j + 2) hrn.1.2] at hbd
            rw [← alnum_bad hrn.1.1]
            simpa using hbd
          have : itemsS u (fl + 1) j p = (p, j) := by unfold itemsS; rw [if_pos hlt, if_pos hrn', if_pos hbb]
          rw [this] at hS
          refine cls0 (j := j) (by rw [← hS]) (.inr (.inr ?_))
          rw [hfr, utat j hlt]; exact h93
        · have hst : itemsS u (fl + 1) j p = (fun d => p d || decide (d = at8 u j), j + 1) := by
            unfold itemsS
            rw [if_pos hlt, if_neg hrn, if_pos hsing]
            obtain ⟨q1, q2⟩ := sing_not (u := u) (j := j + 1) (.inr ⟨h45, by omega⟩)
            exact items_stop q2 q1
          rw [hst] at hS
          refine cls0 (j := j + 1) (by rw [← hS]) (.inr (.inr ?_))
          rw [hfr, utat (j + 1) hlt1, h45]; decide
      · -- a range
        have hlt2 : j + 2 < u.size := by simp at hbd; omega
        rw [← uat (j + 2) hlt2] at hbd ⊢
        have h2 : decide (((k + fr + j : Nat) : Int) + 2 ≥ (s.size : Int)) = false := by simp; omega
        rw [h2, alnum_zero] at hbd
        have hal : alB (at8 u j) = true := by
          cases hx : alB (at8 u j) with
          | true => rfl
          | false => rw [hx] at hbd; simp at hbd
        rw [hal] at hbd
        have hbb : badB (at8 u j) (at8 u (j + 2)) = false := by rw [← alnum_bad hal]; simpa using hbd
        obtain ⟨hle, hall⟩ := badB_not hbb hal
        have hcb := alB_bd hal
        have hlb := alB_bd hall
        have hrn : rngB u j = true := by simp [rngB, hal, hlt2, h45]
        have hst : itemsS u (fl + 1) j p = itemsS u fl (j + 3) (fun d => p d || (decide (at8 u j ≤ d) && decide (d ≤ at8 u (j + 2)))) := by
          conv => lhs; unfold itemsS
          rw [if_pos hlt, if_pos hrn, if_neg (by rw [hbb]; decide)]
        have hmid := fun d (h1 : at8 u j ≤ d) (h2 : d ≤ at8 u (j + 2)) => alB_mid hal hbb h1 h2
        generalize at8 u j = c at *
        generalize at8 u (j + 2) = l at *
        rw [wr64 (x := c) (by omega) (by omega), wr64 (x := l) (by omega) (by omega)]
        refine ⟨fun vs wy => ∃ m : Nat, vs = [.int .i64 (c + m)] ∧ c + m ≤ l + 1 ∧ SetB wy n1 false (fun d => f d || (decide (c ≤ (d : Int)) && decide ((d : Int) < c + m))) ∧ SetB wy n false (fun _ => false) ∧ K0 w wy,
          fun vs _ => (match vs with | .int _ x :: _ => (l + 2 - x).toNat | _ => 0), ⟨0, by simp, by omega, hb.congr (fun d _ => by
            have : (decide (c ≤ (d : Int)) && decide ((d : Int) < c + (0 : Nat))) = false := by simp
            rw [this, Bool.or_false]), hb0, hkx⟩, ?_⟩
        rintro x wy ⟨m, hv, hm, hby, hby0, hky⟩
        have hv : x = c + m := by simpa using hv
        subst hv
        refine ⟨⟨by omega, by omega⟩, bsp_intro (fun hxl => ?_) (fun hxl => ?_)⟩
        · have hxl : c + (m : Int) ≤ l := by simpa using hxl
          have hlt128 : (c + (m : Int)).toNat < 128 := by omega
          refine ⟨⟨by omega, by omega⟩, hby.wr hlt128, fun wz hp => ⟨⟨m + 1, ?_, by omega, (hby.put hp).congr (fun d _ => ?_), hby0.kp hp.kp (fun e => hne e), hky.fresh hp.kp (fun i hi e => by omega)⟩, ?_⟩⟩
          · rw [wr64 (by omega) (by omega)]; congr 2; omega
          · show (if d = (c + (m : Int)).toNat then true else (f d || (decide (c ≤ (d : Int)) && decide ((d : Int) < c + m)))) = (f d || (decide (c ≤ (d : Int)) && decide ((d : Int) < c + ((m + 1 : Nat) : Int))))
            by_cases e : d = (c + (m : Int)).toNat
            · rw [if_pos e]
              have : (decide (c ≤ (d : Int)) && decide ((d : Int) < c + ((m + 1 : Nat) : Int))) = true := by simp; omega
              rw [this]; simp
            · rw [if_neg e]
              have : decide ((d : Int) < c + (m : Int)) = decide ((d : Int) < c + ((m + 1 : Nat) : Int)) := by
                rw [decide_eq_decide]; omega
              rw [this]
          · rw [wr64 (by omega) (by omega)]
            simp only
            omega
        · have hxl : ¬ c + (m : Int) ≤ l := by simpa using hxl
          have hml : c + (m : Int) = l + 1 := by omega
          refine ⟨⟨j + 3, fl, _, _, ?_, by omega, by omega, hst.symm.trans hS, hby, hby0, fun d hd => ?_, fun d hd => ?_, hky⟩, ?_⟩
          · congr 2
          · show (f d || (decide (c ≤ (d : Int)) && decide ((d : Int) < c + m))) = (p d || (decide (c ≤ (d : Int)) && decide ((d : Int) ≤ l)))
            rw [hfp d hd, hml]
            have : decide ((d : Int) < l + 1) = decide ((d : Int) ≤ l) := by rw [decide_eq_decide]; omega
            rw [this]
          · simp only [Bool.or_eq_true, Bool.and_eq_true, decide_eq_true_eq] at hd
            rcases hd with hd | hd
            · exact hpc d hd
            · exact hmid d hd.1 hd.2
          · simp only; omega
    · -- a single character
      have hrn : ¬ rngB u j = true := fun hrn => by
        simp only [rngB, Bool.and_eq_true, decide_eq_true_eq, beq_iff_eq] at hrn
        have h1 : decide (((k + fr + j : Nat) : Int) + 1 < (s.size : Int)) = true := by simp; omega
        rw [h1, ← uat (j + 1) (by omega), hrn.2] at hr
        have h45 : at8 u j = 45 := by simpa using hr
        have := hrn.1.1
        rw [h45] at this
        revert this; decide
      have hst : itemsS u (fl + 1) j p = itemsS u fl (j + 1) (fun d => p d || decide (d = at8 u j)) := by
        conv => lhs; unfold itemsS
        rw [if_pos hlt, if_neg hrn, if_pos hsing]
      have hcb := charB_lt hch
      generalize at8 u j = c at *
      have hlt128 : c.toNat < 128 := by omega
      refine ⟨⟨by omega, by omega⟩, hb.wr hlt128, fun wz hp => ⟨⟨j + 1, fl, _, _, by congr 2, by omega, by omega, hst.symm.trans hS, hb.put hp, hb0.kp hp.kp (fun e => hne e), fun d hd => ?_, fun d hd => ?_, hkx.fresh hp.kp (fun i hi e => by omega)⟩, ?_⟩⟩
      · show (if d = c.toNat then true else f d) = (p d || decide ((d : Int) = c))
        by_cases e : d = c.toNat
        · rw [if_pos e]
          have : decide ((d : Int) = c) = true := by simp; omega
          rw [this]; simp
        · rw [if_neg e, hfp d hd]
          have : decide ((d : Int) = c) = false := by simp; omega
          rw [this]; simp
      · simp only [Bool.or_eq_true, decide_eq_true_eq] at hd
        rcases hd with hd | hd
        · exact hpc d hd
        · rw [hd]; exact hch
      · simp only; omega
  · -- the end of the items
    have hend : u.size ≤ j ∨ (j < u.size ∧ at8 u j = 93) := by
      rcases Nat.lt_or_ge j u.size with hlt | hge
      · right
        refine ⟨hlt, ?_⟩
        have h1 : decide (((k + fr + j : Nat) : Int) < (s.size : Int)) = true := by simp; omega
        rw [h1, ← uat j hlt] at h
        simpa using h
      · exact .inl hge
    have hstop : listS t = (p, j) := by
      rw [← hS]
      rcases hend with he | ⟨hlt, h93⟩
      · cases fl with
        | zero => rfl
        | succ fl => unfold itemsS; rw [if_neg (by omega)]
      · have h1 : charB (at8 u j) = false := by rw [h93]; decide
        obtain ⟨q1, q2⟩ := sing_not (.inl h1)
        exact items_stop q2 q1
    refine bsp_intro (fun hb1 => bad wx f hb hb0 hkx ?_) (fun hb1 => ?_)
    · refine cls0 (j := j) (by rw [hstop]) ?_
      simp only [Bool.or_eq_true, decide_eq_true_eq, beq_iff_eq] at hb1
      rw [hfr]
      rcases hb1 with h1 | h1
      · exact .inr (.inl (by omega))
      · exact .inl (by omega)
    simp only [Bool.or_eq_false_iff, decide_eq_false_iff_not, beq_eq_false_iff_ne] at hb1
    obtain ⟨hb1, hb2⟩ := hb1
    have hlt : j < u.size := by omega
    have h93 : at8 u j = 93 := by
      rcases hend with he | he
      · omega
      · exact he.2
    have hcn : clsN t = fr + j + 1 := by
      unfold clsN
      rw [hstop, hfr]
      simp only
      rw [if_neg]
      rintro (h1 | h1 | h1)
      · exact hb2 (by omega)
      · omega
      · rw [utat j hlt] at h1; exact h1 h93
    have hcs : clsS t = ⟨(nameBytes.data.toList.filter fun b => !(p b.toNat == negB t)).toArray⟩ := by
      unfold clsS
      rw [if_neg (by omega), hstop]
    have fin : ∀ (wy : World) (g : Nat → Bool), (∀ c : Nat, c < 128 → g c = (charB c && !(p c == negB t))) → SetB wy n1 false g → SetB wy n false (fun _ => false) → K0 w wy →
        ∃ (x : Bool) (f : Nat → Bool), AtL wy n1 0 ([Value.bool x] ++ arrBo f 128 0) ∧ WrL wy n 0 129 ∧ ∀ (w1 : World), PutB wy n 0 ([Value.bool x] ++ arrBo f 128 0) w1 →
          ∃ (x : Bool) (f : Nat → Bool), AtL w1 n 0 ([Value.bool x] ++ arrBo f 128 0) ∧ (K0 w w1 ∧ ((clsN t = 0 ∧ ∃ b h, Ending.returned (.tuple #[.agg ([Value.bool x] ++ arrBo f 128 0).toArray, .int .i64 (IntKind.i64.wrap (((k + fr + j : Nat) : Int) + 1))]) = .returned (.tuple #[.agg (reL b h).toArray, .int .i64 (-1)])) ∨
            (clsN t ≠ 0 ∧ ∃ h, Ending.returned (.tuple #[.agg ([Value.bool x] ++ arrBo f 128 0).toArray, .int .i64 (IntKind.i64.wrap (((k + fr + j : Nat) : Int) + 1))]) = .returned (.tuple #[.agg (reL false h).toArray, .int .i64 (k + clsN t : Nat)]) ∧ RelE (.cls (clsS t)) ⟨false, h⟩))) := fun wy g hg h1 h2 hky => by
      refine ⟨false, g, h1.at_, h2.wrl, fun wz hp => ⟨false, g, (h2.full hp).at_, hky.fresh hp.kp (fun i hi e => by omega), .inr ⟨by omega, g, ?_, rfl, fun _ c hc => ?_, fun c h0 h1 hh => ?_⟩⟩⟩
      · rw [wr64 (by omega) (by omega), hcn, show ((k + fr + j : Nat) : Int) + 1 = ((k + (fr + j + 1) : Nat) : Int) by omega]
        rfl
      · show hasB (clsS t) c = g c
        rw [hcs, hasB_filter _ c (by omega) (by omega), hg c hc]
        congr 3
        rw [show ((c : Int).toNat.toUInt8.toNat : Int) = (c : Int) by rw [Int.toNat_natCast, UInt8.toNat_ofNat']; omega]
      · have hh : hasB (clsS t) c = true := hh
        rw [hcs, hasB_filter _ c h0 h1] at hh
        simp only [Bool.and_eq_true] at hh
        exact hh.1
    refine ⟨fun vs wy => ∃ g : Nat → Bool, vs = [] ∧ (∀ c : Nat, c < 128 → g c = (charB c && !(p c == negB t))) ∧ SetB wy n1 false g ∧ SetB wy n false (fun _ => false) ∧ K0 w wy, ?_, fun wy ⟨g, _, h1, h2, h3, h4⟩ => fin wy g h1 h2 h3 h4⟩
    refine bsp_intro (fun hng => ?_) (fun hng => ⟨f, rfl, fun c hc => ?_, hb, hb0, hkx⟩)
    · rw [hng]
      refine ⟨fun vs wy => ∃ m : Nat, vs = [.int .i64 m] ∧ m ≤ 128 ∧ SetB wy n1 false (fun d => if d < m then charB d && !f d else f d) ∧ SetB wy n false (fun _ => false) ∧ K0 w wy, fun vs _ => (match vs with | .int _ x :: _ => 128 - x.toNat | _ => 0),
        ⟨0, rfl, by omega, hb.congr (fun d _ => by simp), hb0, hkx⟩, ?_⟩
      rintro x wy ⟨m, hv, hm, hby, hby0, hky⟩
      have hv : x = (m : Int) := by simpa using hv
      subst hv
      refine bsp_intro (fun hlt => ?_) (fun hge => ?_)
      · have hlt : m < 128 := by simp at hlt; omega
        have eu : IntKind.u8.wrap (m : Int) = (m : Int) := IntWalk.u8_in m ⟨by omega, by omega⟩
        rw [eu, Int.toNat_natCast]
        refine ⟨gimp_intro fun _ => ⟨by omega, by omega⟩, f m, gimp_intro fun _ => ?_, ⟨by omega, by omega⟩, hby.wr hlt, fun wz hp => ⟨⟨m + 1, ?_, by omega, (hby.put hp).congr (fun d _ => ?_), hby0.kp hp.kp (fun e => hne e), hky.fresh hp.kp (fun i hi e => by omega)⟩, ?_⟩⟩
        · have := hby.cell hlt
          rw [this]
          simp
        · rw [wr64 (by omega) (by omega)]; rfl
        · show (if d = m then (charB m && !f m) else (if d < m then charB d && !f d else f d)) = (if d < m + 1 then charB d && !f d else f d)
          by_cases e : d = m
          · subst e; simp
          · rw [if_neg e]
            by_cases e2 : d < m
            · rw [if_pos e2, if_pos (by omega)]
            · rw [if_neg e2, if_neg (by omega)]
        · rw [wr64 (by omega) (by omega)]
          simp only
          omega
      · have hge : ¬ m < 128 := by simp at hge; omega
        refine ⟨_, rfl, fun c hc => ?_, hby, hby0, hky⟩
        show (if c < m then charB c && !f c else f c) = _
        rw [if_pos (by omega), hfp c hc]
        simp
    · rw [hng, hfp c hc]
      cases hp : p c with
      | false => simp
      | true => rw [hpc c hp]; simp

end Go.Proofs.YtcpjajjocmpkjaaDoor
