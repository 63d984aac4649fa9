/- The formulas of functions by the symbolic evaluator, and that each gives the call's contract. Written by a program (gen.py). No condition. -/
import Derived.Test.YtmjanmffnblcoaaProg
import Derived.Test.YtmjanmffnblcoaaZ02
import Derived.Test.YtmjanmffnblcoaaZ08
import Derived.Test.YtmjanmffnblcoaaZ04
import Derived.KernelRfl
import Derived.Test.YtmjanmffnblcoaaZ13
namespace Go.Proofs.Ytmjanmffnblcoaa
set_option maxRecDepth 100000
set_option linter.unusedVariables false

def VC_lplan (p : Option Addr) (n : Nat) (c : Nat) (q : Option Addr) (k : Nat) (d : Nat) (now : Int) (budget : Int) (w : World) (R : Ending → World → Prop) : Prop :=
 ∀ (n_1 : Nat) (W : World),
 Loc w.heap.size
 [Blk.mk n_1 25 [Value.slice p n c, Value.slice q k d, Value.int IntKind.i64 now, Value.int IntKind.i64 budget] 2] w
 W →
 CallsS Try.prog 10 #[] W fun (e : Ending) (w' : World) =>
 ∃ (x : Bool),
 e = Ending.returned (Value.bool x) ∧
 KeptL [n_1] W w' ∧
 ∃ (p_1 : Option Addr),
 ∃ (n_2 : Nat),
 ∃ (c_1 : Nat),
 gimp (!!x) (w'.cell? (Addr.mk n_1 0 none) = some (Value.slice p_1 n_2 c_1)) ∧
 ∃ (p_2 : Option Addr),
 ∃ (n_3 : Nat),
 ∃ (c_2 : Nat),
 gimp (!!x) (w'.cell? (Addr.mk n_1 (0 + 1) none) = some (Value.slice p_2 n_3 c_2)) ∧
 bsp (!!x)
 (CallsS Try.prog 11 #[Value.slice p_1 n_2 c_1, Value.slice p_2 n_3 c_2] w'
 fun (e : Ending) (w'_1 : World) =>
 ∃ (x : Bool),
 e = Ending.returned (Value.bool x) ∧
 KeptL [n_1] w' w'_1 ∧
 bsp (false || !x)
 (CallsS Try.prog 10 #[] w'_1 fun (e : Ending) (w' : World) =>
 ∃ (x : Bool),
 e = Ending.returned (Value.bool x) ∧ KeptL [n_1] w'_1 w' ∧ R (Ending.returned (Value.bool x)) w')
 (∀ (W : World),
 Loc w.heap.size
 [Blk.mk n_1 25
 [Value.slice p n c, Value.slice q k d, Value.int IntKind.i64 now, Value.int IntKind.i64 budget]
 0]
 w'_1 W →
 ∃ (S : World → Prop),
 S W ∧
 ∃ (p_3 : Option Addr),
 ∃ (n_4 : Nat),
 ∃ (c_3 : Nat),
 (∀ (w' : World), S w' → w'.cell? (Addr.mk n_1 0 none) = some (Value.slice p_3 n_4 c_3)) ∧
 ∃ (p_4 : Option Addr),
 ∃ (n_5 : Nat),
 ∃ (c_4 : Nat),
 (∀ (w' : World),
 S w' → w'.cell? (Addr.mk n_1 (0 + 1) none) = some (Value.slice p_4 n_5 c_4)) ∧
 ∃ (x : Int),
 (∀ (w' : World),
 S w' → w'.cell? (Addr.mk n_1 (0 + 2) none) = some (Value.int IntKind.i64 x)) ∧
 ∃ (x_1 : Int),
 (∀ (w' : World),
 S w' → w'.cell? (Addr.mk n_1 (0 + 3) none) = some (Value.int IntKind.i64 x_1)) ∧
 CallsS Try.prog 12 #[Value.slice p_3 n_4 c_3] W fun (e : Ending) (w' : World) =>
 ∃ (p_5 : Option Addr),
 ∃ (n_6 : Nat),
 ∃ (c_5 : Nat),
 e = Ending.returned (Value.slice p_5 n_6 c_5) ∧
 S w' ∧
 CallsS Try.prog 13 #[Value.slice p_4 n_5 c_4] w'
 fun (e : Ending) (w' : World) =>
 ∃ (p_6 : Option Addr),
 ∃ (n_7 : Nat),
 ∃ (c_6 : Nat),
 e = Ending.returned (Value.slice p_6 n_7 c_6) ∧
 S w' ∧
 CallsS Try.prog 14
 #[Value.slice p_5 n_6 c_5, Value.slice p_6 n_7 c_6,
 Value.int IntKind.i64 x, Value.int IntKind.i64 x_1]
 w' fun (e : Ending) (w' : World) =>
 ∃ (p_7 : Option Addr),
 ∃ (n_8 : Nat),
 ∃ (c_7 : Nat),
 ∃ (x : Int),
 e =
 Ending.returned
 (Value.tuple
 #[Value.slice p_7 n_8 c_7, Value.int IntKind.i64 x]) ∧
 KeptL [n_1] W w' ∧
 CallsS Try.prog 23
 #[Value.slice p n c, Value.slice q k d,
 Value.int IntKind.i64 now, Value.int IntKind.i64 budget]
 w' fun (e : Ending) (w'_2 : World) =>
 ∃ (p_8 : Option Addr),
 ∃ (n_9 : Nat),
 ∃ (c_8 : Nat),
 ∃ (p_9 : Option Addr),
 ∃ (n_10 : Nat),
 ∃ (c_9 : Nat),
 ∃ (x_2 : Int),
 e =
 Ending.returned
 (Value.tuple
 #[Value.slice p_8 n_9 c_8, Value.slice p_9 n_10 c_9,
 Value.int IntKind.i64 x_2]) ∧
 KeptL [n_1] w' w'_2 ∧
 CallsS Try.prog 24
 #[Value.slice p_7 n_8 c_7, Value.slice p_8 n_9 c_8]
 w'_2 fun (e : Ending) (w' : World) =>
 ∃ (x_3 : Bool),
 e = Ending.returned (Value.bool x_3) ∧
 KeptL [n_1] w'_2 w' ∧
 bsp (!x_3 || x != x_2)
 (R (Ending.returned (Value.bool false)) w')
 (bsp (x != 0)
 (R (Ending.returned (Value.bool true)) w')
 (CallsS Try.prog 13 #[Value.slice q k d] w'
 fun (e : Ending) (w'_3 : World) =>
 ∃ (p_10 : Option Addr),
 ∃ (n_11 : Nat),
 ∃ (c_10 : Nat),
 e =
 Ending.returned
 (Value.slice p_10 n_11 c_10) ∧
 KeptL [n_1] w' w'_3 ∧
 CallsS Try.prog 25
 #[Value.slice p_10 n_11 c_10,
 Value.slice p_7 n_8 c_7]
 w'_3 fun (e : Ending) (w' : World) =>
 ∃ (p_11 : Option Addr),
 ∃ (n_12 : Nat),
 ∃ (c_11 : Nat),
 e =
 Ending.returned
 (Value.slice p_11 n_12 c_11) ∧
 KeptL [n_1] w'_3 w' ∧
 bsp ((↑n_12 : Int) != (↑n_10 : Int))
 (R
 (Ending.returned
 (Value.bool false))
 w')
 (∃ (I : List Value → World → Prop),
 ∃ (m : List Value → World → Nat),
 I [Value.int IntKind.i64 0] w' ∧
 ∀ (x : Int) (w' : World),
 I [Value.int IntKind.i64 x] w' →
 Loc w.heap.size
 [Blk.mk n_1 25
 [Value.slice p n c,
 Value.slice q k d,
 Value.int IntKind.i64 now,
 Value.int IntKind.i64
 budget]
 0]
 w' w' →
 bsp
 (decide (x < (↑n_12 : Int)))
 (nn true p_11
 fun (b o : Nat) =>
 (0 ≤ x ∧
 x < (↑n_12 : Int)) ∧
 ∃ (f : Nat → Int),
 (∀ (W : World),
 Loc w.heap.size
 [Blk.mk n_1 25
 [Value.slice p n c,
 Value.slice q k d,
 Value.int
 IntKind.i64 now,
 Value.int
 IntKind.i64
 budget]
 0]
 w' W →
 AtL W b
 (o + x.toNat * 39)
 (arrI IntKind.u8 f 32 0)) ∧
 nn true p_9
 fun (b o : Nat) =>
 (0 ≤ x ∧
 x < (↑n_10 : Int)) ∧
 ∃ (f_1 : Nat → Int),
 (∀ (W : World),
 Loc w.heap.size
 [Blk.mk n_1 25
 [Value.slice p n
 c,
 Value.slice q k
 d,
 Value.int
 IntKind.i64
 now,
 Value.int
 IntKind.i64
 budget]
 0]
 w' W →
 AtL W b
 (o + x.toNat * 39)
 (arrI IntKind.u8 f_1 32 0)) ∧
 ∃ (r : Bool),
 EqP Try.prog 38
 (Value.agg
 (arrI IntKind.u8 f 32 0).toArray)
 (Value.agg
 (arrI IntKind.u8 f_1 32 0).toArray)
 r ∧
 nn (!!r) p_11
 fun (b o : Nat) =>
 gimp (!!r)
 (0 ≤ x ∧
 x <
 (↑n_12 :
 Int)) ∧
 ∃ (x_4 : Int),
 gimp (!!r)
 (∀
 (W : World),
 Loc
 w.heap.size
 [Blk.mk n_1
 25
 [Value.slice
 p n c,
 Value.slice
 q k d,
 Value.int
 IntKind.i64
 now,
 Value.int
 IntKind.i64
 budget]
 0]
 w' W →
 W.cell?
 (Addr.mk b
 (o +
 x.toNat *
 39 +
 35)
 none) =
 some
 (Value.int
 IntKind.i64
 x_4)) ∧
 nn (!!r) p_9
 fun
 (b o :
 Nat) =>
 gimp (!!r)
 (0 ≤ x ∧
 x <
 (↑n_10 :
 Int)) ∧
 ∃ (x_5 :
 Int),
 gimp (!!r)
 (∀
 (W :
 World),
 Loc
 w.heap.size
 [Blk.mk
 n_1
 25
 [Value.slice
 p n
 c,
 Value.slice
 q k
 d,
 Value.int
 IntKind.i64
 now,
 Value.int
 IntKind.i64
 budget]
 0]
 w' W →
 W.cell?
 (Addr.mk
 b
 (o +
 x.toNat *
 39 +
 35)
 none) =
 some
 (Value.int
 IntKind.i64
 x_5)) ∧
 nn
 (!(!r ||
 x_4 !=
 x_5))
 p_11
 fun
 (b o :
 Nat) =>
 gimp
 (!(!r ||
 x_4 !=
 x_5))
 (0 ≤ x ∧
 x <
 (↑n_12 :
 Int)) ∧
 ∃ (p_12 :
 Option
 Addr),
 ∃ (n_13
 : Nat),
 ∃ (c_12
 :
 Nat),
 gimp
 (!(!r ||
 x_4 !=
 x_5))
 (∀
 (W :
 World),
 Loc
 w.heap.size
 [Blk.mk
 n_1
 25
 [Value.slice
 p
 n
 c,
 Value.slice
 q
 k
 d,
 Value.int
 IntKind.i64
 now,
 Value.int
 IntKind.i64
 budget]
 0]
 w'
 W →
 W.cell?
 (Addr.mk
 b
 (o +
 x.toNat *
 39 +
 37)
 none) =
 some
 (Value.slice
 p_12
 n_13
 c_12)) ∧
 nn
 (!(!r ||
 x_4 !=
 x_5))
 p_9
 fun
 (b
 o :
 Nat) =>
 gimp
 (!(!r ||
 x_4 !=
 x_5))
 (0 ≤
 x ∧
 x <
 (↑n_10 :
 Int)) ∧
 ∃
 (p_13
 :
 Option
 Addr),
 ∃
 (n_14
 :
 Nat),
 ∃
 (c_13
 :
 Nat),
 gimp
 (!(!r ||
 x_4 !=
 x_5))
 (∀
 (W :
 World),
 Loc
 w.heap.size
 [Blk.mk
 n_1
 25
 [Value.slice
 p
 n
 c,
 Value.slice
 q
 k
 d,
 Value.int
 IntKind.i64
 now,
 Value.int
 IntKind.i64
 budget]
 0]
 w'
 W →
 W.cell?
 (Addr.mk
 b
 (o +
 x.toNat *
 39 +
 37)
 none) =
 some
 (Value.slice
 p_13
 n_14
 c_13)) ∧
 bsp
 (!r ||
 x_4 !=
 x_5 ||
 (↑n_13 :
 Int) !=
 (↑n_14 :
 Int))
 (∀
 (W :
 World),
 Loc
 w.heap.size
 [Blk.mk
 n_1
 25
 [Value.slice
 p
 n
 c,
 Value.slice
 q
 k
 d,
 Value.int
 IntKind.i64
 now,
 Value.int
 IntKind.i64
 budget]
 0]
 w'
 W →
 R
 (Ending.returned
 (Value.bool
 false))
 W)
 (∀
 (W :
 World),
 Loc
 w.heap.size
 [Blk.mk
 n_1
 25
 [Value.slice
 p
 n
 c,
 Value.slice
 q
 k
 d,
 Value.int
 IntKind.i64
 now,
 Value.int
 IntKind.i64
 budget]
 0]
 w'
 W →
 I
 [Value.int
 IntKind.i64
 (IntKind.i64.wrap
 (x +
 1))]
 W ∧
 m
 [Value.int
 IntKind.i64
 (IntKind.i64.wrap
 (x +
 1))]
 W <
 m
 [Value.int
 IntKind.i64
 x]
 w'))
 (R
 (Ending.returned
 (Value.bool true))
 w'))))))
 (KeptL [n_1] w' w' ∧
 CallsS Try.prog 10 #[] w' fun (e : Ending) (w'_1 : World) =>
 ∃ (x : Bool),
 e = Ending.returned (Value.bool x) ∧ KeptL [n_1] w' w'_1 ∧ R (Ending.returned (Value.bool x)) w'_1)
theorem vc_lplan (p : Option Addr) (n : Nat) (c : Nat) (q : Option Addr) (k : Nat) (d : Nat) (now : Int) (budget : Int) (w : World) (R : Ending → World → Prop) (h : VC_lplan p n c q k d now budget w R) : Calls Try.prog 6 ([Value.agg
    #[Value.slice p n c, Value.slice q k d, Value.int IntKind.i64 now,
      Value.int IntKind.i64 budget]] : List Value).toArray w R := by
  have e : execR2 { P := Try.prog, loops := [(13, [(9, Ck.int IntKind.i64)])], pur := pur2, tails := [(3, 2)], joins := [], boxes := [] } Try.f6.results.toList R (Try.f6.body.getD .skip) (initF [Value.agg
    #[Value.slice p n c, Value.slice q k d, Value.int IntKind.i64 now,
      Value.int IntKind.i64
        budget]] (Try.f6.ntmps - ([Value.agg
    #[Value.slice p n c, Value.slice q k d, Value.int IntKind.i64 now,
      Value.int IntKind.i64 budget]] : List Value).length)) w = VC_lplan p n c q k d now budget w R := by kernel_rfl
  have hb : Try.f6.body = some (Try.f6.body.getD .skip) := by kernel_rfl
  exact calls_of_exec2' (P := Try.prog) (fn := Try.f6) (c := Try.f6.body.getD .skip) (args := [Value.agg
    #[Value.slice p n c, Value.slice q k d, Value.int IntKind.i64 now,
      Value.int IntKind.i64 budget]]) (w := w) (R := R) pur2_ok Try.func6 hb e h

def VC_lsafe (p : Option Addr) (n : Nat) (c : Nat) (q : Option Addr) (k : Nat) (d : Nat) (now : Int) (budget : Int) (w : World) (R : Ending → World → Prop) : Prop :=
 ∀ (n_1 : Nat) (W : World),
 Loc w.heap.size
 [Blk.mk n_1 25 [Value.slice p n c, Value.slice q k d, Value.int IntKind.i64 now, Value.int IntKind.i64 budget] 2] w
 W →
 CallsS Try.prog 10 #[] W fun (e : Ending) (w' : World) =>
 ∃ (x : Bool),
 e = Ending.returned (Value.bool x) ∧
 KeptL [n_1] W w' ∧
 ∃ (p_1 : Option Addr),
 ∃ (n_2 : Nat),
 ∃ (c_1 : Nat),
 gimp (!!x) (w'.cell? (Addr.mk n_1 0 none) = some (Value.slice p_1 n_2 c_1)) ∧
 ∃ (p_2 : Option Addr),
 ∃ (n_3 : Nat),
 ∃ (c_2 : Nat),
 gimp (!!x) (w'.cell? (Addr.mk n_1 (0 + 1) none) = some (Value.slice p_2 n_3 c_2)) ∧
 bsp (!!x)
 (CallsS Try.prog 11 #[Value.slice p_1 n_2 c_1, Value.slice p_2 n_3 c_2] w'
 fun (e : Ending) (w'_1 : World) =>
 ∃ (x : Bool),
 e = Ending.returned (Value.bool x) ∧
 KeptL [n_1] w' w'_1 ∧
 bsp (false || !x)
 (CallsS Try.prog 10 #[] w'_1 fun (e : Ending) (w' : World) =>
 ∃ (x : Bool),
 e = Ending.returned (Value.bool x) ∧ KeptL [n_1] w'_1 w' ∧ R (Ending.returned (Value.bool x)) w')
 (∀ (W : World),
 Loc w.heap.size
 [Blk.mk n_1 25
 [Value.slice p n c, Value.slice q k d, Value.int IntKind.i64 now, Value.int IntKind.i64 budget]
 0]
 w'_1 W →
 ∃ (S : World → Prop),
 S W ∧
 ∃ (p_3 : Option Addr),
 ∃ (n_4 : Nat),
 ∃ (c_3 : Nat),
 (∀ (w' : World), S w' → w'.cell? (Addr.mk n_1 0 none) = some (Value.slice p_3 n_4 c_3)) ∧
 ∃ (p_4 : Option Addr),
 ∃ (n_5 : Nat),
 ∃ (c_4 : Nat),
 (∀ (w' : World),
 S w' → w'.cell? (Addr.mk n_1 (0 + 1) none) = some (Value.slice p_4 n_5 c_4)) ∧
 CallsS Try.prog 12 #[Value.slice p_3 n_4 c_3] W fun (e : Ending) (w' : World) =>
 ∃ (p_5 : Option Addr),
 ∃ (n_6 : Nat),
 ∃ (c_5 : Nat),
 e = Ending.returned (Value.slice p_5 n_6 c_5) ∧
 S w' ∧
 CallsS Try.prog 13 #[Value.slice p_4 n_5 c_4] w' fun (e : Ending) (w' : World) =>
 ∃ (p_6 : Option Addr),
 ∃ (n_7 : Nat),
 ∃ (c_6 : Nat),
 e = Ending.returned (Value.slice p_6 n_7 c_6) ∧
 KeptL [n_1] W w' ∧
 CallsS Try.prog 14
 #[Value.slice p_5 n_6 c_5, Value.slice p_6 n_7 c_6,
 Value.int IntKind.i64 now, Value.int IntKind.i64 budget]
 w' fun (e : Ending) (w'_2 : World) =>
 ∃ (p_7 : Option Addr),
 ∃ (n_8 : Nat),
 ∃ (c_7 : Nat),
 ∃ (x : Int),
 e =
 Ending.returned
 (Value.tuple #[Value.slice p_7 n_8 c_7, Value.int IntKind.i64 x]) ∧
 KeptL [n_1] w' w'_2 ∧
 bsp (x != 0)
 (R (Ending.returned (Value.bool ((↑n_8 : Int) == 0))) w'_2)
 (CallsS Try.prog 25
 #[Value.slice p_6 n_7 c_6, Value.slice p_7 n_8 c_7] w'_2
 fun (e : Ending) (w' : World) =>
 ∃ (p_8 : Option Addr),
 ∃ (n_9 : Nat),
 ∃ (c_8 : Nat),
 e = Ending.returned (Value.slice p_8 n_9 c_8) ∧
 KeptL [n_1] w'_2 w' ∧
 bsp
 (IntKind.i64.wrap ((↑n_9 : Int) + (↑n_8 : Int)) !=
 (↑n_7 : Int))
 (R (Ending.returned (Value.bool false)) w')
 (∃ (I : List Value → World → Prop),
 ∃ (m : List Value → World → Nat),
 I [Value.int IntKind.i64 0] w' ∧
 ∀ (x : Int) (w' : World),
 I [Value.int IntKind.i64 x] w' →
 Loc w.heap.size
 [Blk.mk n_1 25
 [Value.slice p n c, Value.slice q k d,
 Value.int IntKind.i64 now,
 Value.int IntKind.i64 budget]
 0]
 w' w' →
 bsp (decide (x < (↑n_7 : Int)))
 (nn true p_6 fun (b o : Nat) =>
 (0 ≤ x ∧ x < (↑n_7 : Int)) ∧
 ∃ (f : Nat → Int),
 ∃ (x_1 : Int),
 ∃ (x_2 : Int),
 ∃ (p_9 : Option Addr),
 ∃ (n_10 : Nat),
 ∃ (c_9 : Nat),
 ∃ (x_3 : Int),
 ∃ (x_4 : Int),
 ∃ (p_10 : Option Addr),
 ∃ (n_11 : Nat),
 ∃ (c_10 : Nat),
 ∃ (x_5 : Bool),
 AtL w' b (o + x.toNat * 39)
 (arrI IntKind.u8 f 32 0 ++ [Value.int IntKind.i64 x_1,
 Value.int IntKind.i64 x_2,
 Value.slice p_9 n_10 c_9,
 Value.int IntKind.i64 x_3,
 Value.int IntKind.i64 x_4,
 Value.slice p_10 n_11 c_10,
 Value.bool x_5]) ∧
 ∀ (n_12 : Nat) (W : World),
 Loc w.heap.size
 [Blk.mk n_1 25
 [Value.slice p n c,
 Value.slice q k d,
 Value.int IntKind.i64 now,
 Value.int IntKind.i64 budget]
 0,
 Blk.mk n_12 42
 (arrI IntKind.u8 f 32 0 ++ [Value.int IntKind.i64 x_1,
 Value.int IntKind.i64 x_2,
 Value.slice p_9 n_10 c_9,
 Value.int IntKind.i64 x_3,
 Value.int IntKind.i64 x_4,
 Value.slice p_10 n_11 c_10,
 Value.bool x_5])
 (wrM 2)]
 w' W →
 CallsS Try.prog 26
 #[Value.slice p_8 n_9 c_8,
 Value.agg
 (arrI IntKind.u8 f 32 0).toArray]
 W fun (e : Ending) (w'_3 : World) =>
 ∃ (x_6 : Bool),
 e =
 Ending.returned
 (Value.bool x_6) ∧
 KeptL [n_1, n_12] W w'_3 ∧
 bsp x_6
 (I
 [Value.int IntKind.i64
 (IntKind.i64.wrap (x + 1))]
 w'_3 ∧
 m
 [Value.int IntKind.i64
 (IntKind.i64.wrap (x + 1))]
 w'_3 <
 m [Value.int IntKind.i64 x]
 w')
 (∀ (W : World),
 Loc w.heap.size
 [Blk.mk n_1 25
 [Value.slice p n c,
 Value.slice q k d,
 Value.int IntKind.i64 now,
 Value.int IntKind.i64
 budget]
 0,
 Blk.mk n_12 42
 (arrI IntKind.u8 f 32 0 ++ [Value.int IntKind.i64 x_1,
 Value.int IntKind.i64 x_2,
 Value.slice p_9 n_10 c_9,
 Value.int IntKind.i64 x_3,
 Value.int IntKind.i64 x_4,
 Value.slice p_10 n_11
 c_10,
 Value.bool x_5])
 0]
 w'_3 W →
 ∃ (S : World → Prop),
 S W ∧
 ∃ (x_7 : Int),
 (∀ (w' : World),
 S w' →
 w'.cell?
 (Addr.mk n_12 (0 + 36)
 none) =
 some
 (Value.int IntKind.i64
 x_7)) ∧
 ∃ (x_8 : Bool),
 gimp (!decide (x_7 ≥ 3))
 (∀ (w' : World),
 S w' →
 w'.cell?
 (Addr.mk n_12
 (0 + 38) none) =
 some
 (Value.bool x_8)) ∧
 ∃ (x_9 : Int),
 gimp
 (!decide (x_7 ≥ 3) &&
 !x_8)
 (∀ (w' : World),
 S w' →
 w'.cell?
 (Addr.mk n_1
 (0 + 2) none) =
 some
 (Value.int
 IntKind.i64
 x_9)) ∧
 ∃ (x_10 : Int),
 gimp
 (!decide
 (x_7 ≥ 3) &&
 !x_8)
 (∀ (w' : World),
 S w' →
 w'.cell?
 (Addr.mk n_12
 (0 + 33)
 none) =
 some
 (Value.int
 IntKind.i64
 x_10)) ∧
 ∃ (f_1 : Nat → Int),
 ∃ (x_11 : Int),
 ∃ (x_12 : Int),
 ∃ (p_11 :
 Option Addr),
 ∃ (n_13 : Nat),
 ∃ (c_11 : Nat),
 ∃ (x_13 :
 Int),
 ∃ (x_14 :
 Int),
 ∃ (p_12 :
 Option
 Addr),
 ∃ (n_14 :
 Nat),
 ∃ (c_12 :
 Nat),
 ∃ (x_15 :
 Bool),
 gimp
 (!decide
 (x_7 ≥
 3) &&
 !x_8)
 (∀
 (w' :
 World),
 S
 w' →
 AtL
 w'
 n_12
 0
 (arrI IntKind.u8 f_1 32 0 ++ [Value.int
 IntKind.i64
 x_11,
 Value.int
 IntKind.i64
 x_12,
 Value.slice
 p_11
 n_13
 c_11,
 Value.int
 IntKind.i64
 x_13,
 Value.int
 IntKind.i64
 x_14,
 Value.slice
 p_12
 n_14
 c_12,
 Value.bool
 x_15])) ∧
 bsp
 (!decide
 (x_7 ≥
 3))
 (bsp
 (!x_8)
 (CallsS
 Try.prog
 21
 #[Value.slice
 p_5
 n_6
 c_5,
 Value.agg
 (arrI IntKind.u8 f_1 32 0 ++ [Value.int
 IntKind.i64
 x_11,
 Value.int
 IntKind.i64
 x_12,
 Value.slice
 p_11
 n_13
 c_11,
 Value.int
 IntKind.i64
 x_13,
 Value.int
 IntKind.i64
 x_14,
 Value.slice
 p_12
 n_14
 c_12,
 Value.bool
 x_15]).toArray]
 W
 fun
 (e :
 Ending)
 (w'_4 :
 World) =>
 ∃
 (x_16
 :
 Int),
 e =
 Ending.returned
 (Value.int
 IntKind.i64
 x_16) ∧
 S
 w'_4 ∧
 KeptL
 [n_1,
 n_12]
 W
 w'_4 ∧
 bsp
 (false ||
 true &&
 decide
 (x_9 <
 IntKind.i64.wrap
 (x_10 +
 IntKind.i64.wrap
 (x_16 *
 1440))))
 (R
 (Ending.returned
 (Value.bool
 false))
 w'_4)
 (∃
 (I_1
 :
 List
 Value →
 World →
 Prop),
 ∃
 (m_1
 :
 List
 Value →
 World →
 Nat),
 I_1
 [Value.int
 IntKind.i64
 0]
 w'_4 ∧
 ∀
 (x_17 :
 Int)
 (w'_5 :
 World),
 I_1
 [Value.int
 IntKind.i64
 x_17]
 w'_5 →
 Loc
 w.heap.size
 [Blk.mk
 n_1
 25
 [Value.slice
 p
 n
 c,
 Value.slice
 q
 k
 d,
 Value.int
 IntKind.i64
 now,
 Value.int
 IntKind.i64
 budget]
 0,
 Blk.mk
 n_12
 42
 (arrI IntKind.u8 f 32 0 ++ [Value.int
 IntKind.i64
 x_1,
 Value.int
 IntKind.i64
 x_2,
 Value.slice
 p_9
 n_10
 c_9,
 Value.int
 IntKind.i64
 x_3,
 Value.int
 IntKind.i64
 x_4,
 Value.slice
 p_10
 n_11
 c_10,
 Value.bool
 x_5])
 0]
 w'_5
 w'_5 →
 bsp
 (decide
 (x_17 <
 (↑n_11 :
 Int)))
 (nn
 true
 p_10
 fun
 (b
 o :
 Nat) =>
 (0 ≤
 x_17 ∧
 x_17 <
 (↑n_11 :
 Int)) ∧
 ∃
 (f
 :
 Nat →
 Int),
 AtL
 w'_5
 b
 (o +
 x_17.toNat *
 32)
 (arrI IntKind.u8 f 32 0) ∧
 CallsS
 Try.prog
 26
 #[Value.slice
 p_8
 n_9
 c_8,
 Value.agg
 (arrI IntKind.u8 f 32 0).toArray]
 w'_5
 fun
 (e :
 Ending)
 (w' :
 World) =>
 ∃
 (x
 :
 Bool),
 e =
 Ending.returned
 (Value.bool
 x) ∧
 KeptL
 [n_1,
 n_12]
 w'_5
 w' ∧
 bsp
 x
 (R
 (Ending.returned
 (Value.bool
 false))
 w')
 (I_1
 [Value.int
 IntKind.i64
 (IntKind.i64.wrap
 (x_17 +
 1))]
 w' ∧
 m_1
 [Value.int
 IntKind.i64
 (IntKind.i64.wrap
 (x_17 +
 1))]
 w' <
 m_1
 [Value.int
 IntKind.i64
 x_17]
 w'_5))
 (I
 [Value.int
 IntKind.i64
 (IntKind.i64.wrap
 (x +
 1))]
 w'_5 ∧
 m
 [Value.int
 IntKind.i64
 (IntKind.i64.wrap
 (x +
 1))]
 w'_5 <
 m
 [Value.int
 IntKind.i64
 x]
 w')))
 (S
 W ∧
 KeptL
 [n_1,
 n_12]
 W
 W ∧
 ∃
 (I_1
 :
 List
 Value →
 World →
 Prop),
 ∃
 (m_1
 :
 List
 Value →
 World →
 Nat),
 I_1
 [Value.int
 IntKind.i64
 0]
 W ∧
 ∀
 (x_16 :
 Int)
 (w'_4 :
 World),
 I_1
 [Value.int
 IntKind.i64
 x_16]
 w'_4 →
 Loc
 w.heap.size
 [Blk.mk
 n_1
 25
 [Value.slice
 p
 n
 c,
 Value.slice
 q
 k
 d,
 Value.int
 IntKind.i64
 now,
 Value.int
 IntKind.i64
 budget]
 0,
 Blk.mk
 n_12
 42
 (arrI IntKind.u8 f 32 0 ++ [Value.int
 IntKind.i64
 x_1,
 Value.int
 IntKind.i64
 x_2,
 Value.slice
 p_9
 n_10
 c_9,
 Value.int
 IntKind.i64
 x_3,
 Value.int
 IntKind.i64
 x_4,
 Value.slice
 p_10
 n_11
 c_10,
 Value.bool
 x_5])
 0]
 w'_4
 w'_4 →
 bsp
 (decide
 (x_16 <
 (↑n_11 :
 Int)))
 (nn
 true
 p_10
 fun
 (b
 o :
 Nat) =>
 (0 ≤
 x_16 ∧
 x_16 <
 (↑n_11 :
 Int)) ∧
 ∃
 (f
 :
 Nat →
 Int),
 AtL
 w'_4
 b
 (o +
 x_16.toNat *
 32)
 (arrI IntKind.u8 f 32 0) ∧
 CallsS
 Try.prog
 26
 #[Value.slice
 p_8
 n_9
 c_8,
 Value.agg
 (arrI IntKind.u8 f 32 0).toArray]
 w'_4
 fun
 (e :
 Ending)
 (w' :
 World) =>
 ∃
 (x
 :
 Bool),
 e =
 Ending.returned
 (Value.bool
 x) ∧
 KeptL
 [n_1,
 n_12]
 w'_4
 w' ∧
 bsp
 x
 (R
 (Ending.returned
 (Value.bool
 false))
 w')
 (I_1
 [Value.int
 IntKind.i64
 (IntKind.i64.wrap
 (x_16 +
 1))]
 w' ∧
 m_1
 [Value.int
 IntKind.i64
 (IntKind.i64.wrap
 (x_16 +
 1))]
 w' <
 m_1
 [Value.int
 IntKind.i64
 x_16]
 w'_4))
 (I
 [Value.int
 IntKind.i64
 (IntKind.i64.wrap
 (x +
 1))]
 w'_4 ∧
 m
 [Value.int
 IntKind.i64
 (IntKind.i64.wrap
 (x +
 1))]
 w'_4 <
 m
 [Value.int
 IntKind.i64
 x]
 w')))
 (S W ∧
 KeptL
 [n_1,
 n_12]
 W
 W ∧
 R
 (Ending.returned
 (Value.bool
 false))
 W)))
 (R (Ending.returned (Value.bool true)) w')))))
 (KeptL [n_1] w' w' ∧
 CallsS Try.prog 10 #[] w' fun (e : Ending) (w'_1 : World) =>
 ∃ (x : Bool),
 e = Ending.returned (Value.bool x) ∧ KeptL [n_1] w' w'_1 ∧ R (Ending.returned (Value.bool x)) w'_1)
theorem vc_lsafe (p : Option Addr) (n : Nat) (c : Nat) (q : Option Addr) (k : Nat) (d : Nat) (now : Int) (budget : Int) (w : World) (R : Ending → World → Prop) (h : VC_lsafe p n c q k d now budget w R) : Calls Try.prog 7 ([Value.agg
    #[Value.slice p n c, Value.slice q k d, Value.int IntKind.i64 now,
      Value.int IntKind.i64 budget]] : List Value).toArray w R := by
  have e : execR2 { P := Try.prog, loops := [(11, [(8, Ck.int IntKind.i64)]), (18, [(10, Ck.int IntKind.i64)])], pur := pur2, tails := [(3, 2), (15, 14)], joins := [], boxes := [] } Try.f7.results.toList R (Try.f7.body.getD .skip) (initF [Value.agg
    #[Value.slice p n c, Value.slice q k d, Value.int IntKind.i64 now,
      Value.int IntKind.i64
        budget]] (Try.f7.ntmps - ([Value.agg
    #[Value.slice p n c, Value.slice q k d, Value.int IntKind.i64 now,
      Value.int IntKind.i64 budget]] : List Value).length)) w = VC_lsafe p n c q k d now budget w R := by kernel_rfl
  have hb : Try.f7.body = some (Try.f7.body.getD .skip) := by kernel_rfl
  exact calls_of_exec2' (P := Try.prog) (fn := Try.f7) (c := Try.f7.body.getD .skip) (args := [Value.agg
    #[Value.slice p n c, Value.slice q k d, Value.int IntKind.i64 now,
      Value.int IntKind.i64 budget]]) (w := w) (R := R) pur2_ok Try.func7 hb e h

def VC_lcompl (p : Option Addr) (n : Nat) (c : Nat) (q : Option Addr) (k : Nat) (d : Nat) (now : Int) (budget : Int) (w : World) (R : Ending → World → Prop) : Prop :=
 ∀ (n_1 : Nat) (W : World),
 Loc w.heap.size
 [Blk.mk n_1 25 [Value.slice p n c, Value.slice q k d, Value.int IntKind.i64 now, Value.int IntKind.i64 budget] 2] w
 W →
 CallsS Try.prog 10 #[] W fun (e : Ending) (w' : World) =>
 ∃ (x : Bool),
 e = Ending.returned (Value.bool x) ∧
 KeptL [n_1] W w' ∧
 ∃ (p_1 : Option Addr),
 ∃ (n_2 : Nat),
 ∃ (c_1 : Nat),
 gimp (!!x) (w'.cell? (Addr.mk n_1 0 none) = some (Value.slice p_1 n_2 c_1)) ∧
 ∃ (p_2 : Option Addr),
 ∃ (n_3 : Nat),
 ∃ (c_2 : Nat),
 gimp (!!x) (w'.cell? (Addr.mk n_1 (0 + 1) none) = some (Value.slice p_2 n_3 c_2)) ∧
 bsp (!!x)
 (CallsS Try.prog 11 #[Value.slice p_1 n_2 c_1, Value.slice p_2 n_3 c_2] w'
 fun (e : Ending) (w'_1 : World) =>
 ∃ (x : Bool),
 e = Ending.returned (Value.bool x) ∧
 KeptL [n_1] w' w'_1 ∧
 bsp (false || !x)
 (CallsS Try.prog 10 #[] w'_1 fun (e : Ending) (w' : World) =>
 ∃ (x : Bool),
 e = Ending.returned (Value.bool x) ∧ KeptL [n_1] w'_1 w' ∧ R (Ending.returned (Value.bool x)) w')
 (∀ (W : World),
 Loc w.heap.size
 [Blk.mk n_1 25
 [Value.slice p n c, Value.slice q k d, Value.int IntKind.i64 now, Value.int IntKind.i64 budget]
 0]
 w'_1 W →
 ∃ (S : World → Prop),
 S W ∧
 ∃ (p_3 : Option Addr),
 ∃ (n_4 : Nat),
 ∃ (c_3 : Nat),
 (∀ (w' : World), S w' → w'.cell? (Addr.mk n_1 0 none) = some (Value.slice p_3 n_4 c_3)) ∧
 ∃ (p_4 : Option Addr),
 ∃ (n_5 : Nat),
 ∃ (c_4 : Nat),
 (∀ (w' : World),
 S w' → w'.cell? (Addr.mk n_1 (0 + 1) none) = some (Value.slice p_4 n_5 c_4)) ∧
 CallsS Try.prog 12 #[Value.slice p_3 n_4 c_3] W fun (e : Ending) (w' : World) =>
 ∃ (p_5 : Option Addr),
 ∃ (n_6 : Nat),
 ∃ (c_5 : Nat),
 e = Ending.returned (Value.slice p_5 n_6 c_5) ∧
 S w' ∧
 CallsS Try.prog 13 #[Value.slice p_4 n_5 c_4] w' fun (e : Ending) (w' : World) =>
 ∃ (p_6 : Option Addr),
 ∃ (n_7 : Nat),
 ∃ (c_6 : Nat),
 e = Ending.returned (Value.slice p_6 n_7 c_6) ∧
 KeptL [n_1] W w' ∧
 CallsS Try.prog 14
 #[Value.slice p_5 n_6 c_5, Value.slice p_6 n_7 c_6,
 Value.int IntKind.i64 now, Value.int IntKind.i64 budget]
 w' fun (e : Ending) (w'_2 : World) =>
 ∃ (p_7 : Option Addr),
 ∃ (n_8 : Nat),
 ∃ (c_7 : Nat),
 ∃ (x : Int),
 e =
 Ending.returned
 (Value.tuple #[Value.slice p_7 n_8 c_7, Value.int IntKind.i64 x]) ∧
 KeptL [n_1] w' w'_2 ∧
 bsp (x != 0) (R (Ending.returned (Value.bool true)) w'_2)
 (CallsS Try.prog 23
 #[Value.slice p n c, Value.slice q k d, Value.int IntKind.i64 now,
 Value.int IntKind.i64 budget]
 w'_2 fun (e : Ending) (w' : World) =>
 ∃ (p_8 : Option Addr),
 ∃ (n_9 : Nat),
 ∃ (c_8 : Nat),
 ∃ (p_9 : Option Addr),
 ∃ (n_10 : Nat),
 ∃ (c_9 : Nat),
 ∃ (x : Int),
 e =
 Ending.returned
 (Value.tuple
 #[Value.slice p_8 n_9 c_8, Value.slice p_9 n_10 c_9,
 Value.int IntKind.i64 x]) ∧
 KeptL [n_1] w'_2 w' ∧
 CallsS Try.prog 25
 #[Value.slice p_6 n_7 c_6, Value.slice p_7 n_8 c_7] w'
 fun (e : Ending) (w'_3 : World) =>
 ∃ (p_10 : Option Addr),
 ∃ (n_11 : Nat),
 ∃ (c_10 : Nat),
 e = Ending.returned (Value.slice p_10 n_11 c_10) ∧
 KeptL [n_1] w' w'_3 ∧
 ∃ (I : List Value → World → Prop),
 ∃ (m : List Value → World → Nat),
 I
 [Value.int IntKind.i64 0,
 Value.int IntKind.i64 0]
 w'_3 ∧
 ∀ (x x_1 : Int) (w' : World),
 I
 [Value.int IntKind.i64 x,
 Value.int IntKind.i64 x_1]
 w' →
 Loc w.heap.size
 [Blk.mk n_1 25
 [Value.slice p n c, Value.slice q k d,
 Value.int IntKind.i64 now,
 Value.int IntKind.i64 budget]
 0]
 w' w' →
 bsp (decide (x < (↑n_11 : Int)))
 (nn true p_10 fun (b o : Nat) =>
 (0 ≤ x ∧ x < (↑n_11 : Int)) ∧
 ∃ (x_2 : Int),
 w'.cell?
 (Addr.mk b (o + x.toNat * 39 + 35)
 none) =
 some (Value.int IntKind.i64 x_2) ∧
 I
 [Value.int IntKind.i64
 (IntKind.i64.wrap (x + 1)),
 Value.int IntKind.i64
 (IntKind.i64.wrap (x_1 + x_2))]
 w' ∧
 m
 [Value.int IntKind.i64
 (IntKind.i64.wrap (x + 1)),
 Value.int IntKind.i64
 (IntKind.i64.wrap (x_1 + x_2))]
 w' <
 m
 [Value.int IntKind.i64 x,
 Value.int IntKind.i64 x_1]
 w')
 (bsp ((↑n_11 : Int) != (↑n_10 : Int))
 (R (Ending.returned (Value.bool false)) w')
 (∃ (I : List Value → World → Prop),
 ∃ (m : List Value → World → Nat),
 I [Value.int IntKind.i64 0] w' ∧
 ∀ (x : Int) (w' : World),
 I [Value.int IntKind.i64 x] w' →
 Loc w.heap.size
 [Blk.mk n_1 25
 [Value.slice p n c,
 Value.slice q k d,
 Value.int IntKind.i64 now,
 Value.int IntKind.i64 budget]
 0]
 w' w' →
 bsp (decide (x < (↑n_11 : Int)))
 (nn true p_9 fun (b o : Nat) =>
 (0 ≤ x ∧ x < (↑n_10 : Int)) ∧
 ∃ (f : Nat → Int),
 ∃ (x_2 : Int),
 ∃ (x_3 : Int),
 ∃ (p_11 : Option Addr),
 ∃ (n_12 : Nat),
 ∃ (c_11 : Nat),
 ∃ (x_4 : Int),
 ∃ (x_5 : Int),
 ∃ (p_12 : Option Addr),
 ∃ (n_13 : Nat),
 ∃ (c_12 : Nat),
 ∃ (x_6 : Bool),
 (∀ (W : World),
 Loc w.heap.size
 [Blk.mk n_1 25
 [Value.slice p n
 c,
 Value.slice q k
 d,
 Value.int
 IntKind.i64
 now,
 Value.int
 IntKind.i64
 budget]
 0]
 w' W →
 AtL W b
 (o + x.toNat * 39)
 (arrI IntKind.u8 f 32 0 ++ [Value.int
 IntKind.i64 x_2,
 Value.int
 IntKind.i64 x_3,
 Value.slice p_11
 n_12 c_11,
 Value.int
 IntKind.i64 x_4,
 Value.int
 IntKind.i64 x_5,
 Value.slice p_12
 n_13 c_12,
 Value.bool x_6])) ∧
 ∀ (W : World),
 Loc w.heap.size
 [Blk.mk n_1 25
 [Value.slice p n
 c,
 Value.slice q k
 d,
 Value.int
 IntKind.i64
 now,
 Value.int
 IntKind.i64
 budget]
 0]
 w' W →
 CallsS Try.prog 27
 #[Value.slice p_9
 n_10 c_9,
 Value.agg
 (arrI IntKind.u8 f 32 0 ++ [Value.int
 IntKind.i64
 x_2,
 Value.int
 IntKind.i64
 x_3,
 Value.slice p_11
 n_12 c_11,
 Value.int
 IntKind.i64
 x_4,
 Value.int
 IntKind.i64
 x_5,
 Value.slice p_12
 n_13 c_12,
 Value.bool x_6]).toArray,
 Value.int
 IntKind.i64 now]
 W
 fun (e : Ending)
 (w'_4 : World) =>
 ∃ (x_7 : Bool),
 e =
 Ending.returned
 (Value.bool
 x_7) ∧
 KeptL [n_1] W
 w'_4 ∧
 bsp x_7
 (I
 [Value.int
 IntKind.i64
 (IntKind.i64.wrap
 (x + 1))]
 w'_4 ∧
 m
 [Value.int
 IntKind.i64
 (IntKind.i64.wrap
 (x + 1))]
 w'_4 <
 m
 [Value.int
 IntKind.i64
 x]
 w')
 (∀ (W : World),
 Loc
 w.heap.size
 [Blk.mk n_1
 25
 [Value.slice
 p n c,
 Value.slice
 q k d,
 Value.int
 IntKind.i64
 now,
 Value.int
 IntKind.i64
 budget]
 0]
 w'_4 W →
 ∃ (S :
 World →
 Prop),
 S W ∧
 nn true
 p_10
 fun
 (b o :
 Nat) =>
 (0 ≤ x ∧
 x <
 (↑n_11 :
 Int)) ∧
 ∃ (f :
 Nat →
 Int),
 ∃ (x_8 :
 Int),
 ∃ (x_9
 :
 Int),
 ∃
 (p_13
 :
 Option
 Addr),
 ∃
 (n_14
 :
 Nat),
 ∃
 (c_13
 :
 Nat),
 ∃
 (x_10
 :
 Int),
 ∃
 (x_11
 :
 Int),
 ∃
 (p_14
 :
 Option
 Addr),
 ∃
 (n_15
 :
 Nat),
 ∃
 (c_14
 :
 Nat),
 ∃
 (x_12
 :
 Bool),
 (∀
 (w' :
 World),
 S
 w' →
 AtL
 w'
 b
 (o +
 x.toNat *
 39)
 (arrI IntKind.u8 f 32 0 ++ [Value.int
 IntKind.i64
 x_8,
 Value.int
 IntKind.i64
 x_9,
 Value.slice
 p_13
 n_14
 c_13,
 Value.int
 IntKind.i64
 x_10,
 Value.int
 IntKind.i64
 x_11,
 Value.slice
 p_14
 n_15
 c_14,
 Value.bool
 x_12])) ∧
 nn
 true
 p_10
 fun
 (b
 o :
 Nat) =>
 (0 ≤
 x ∧
 x <
 (↑n_11 :
 Int)) ∧
 ∃
 (f_1
 :
 Nat →
 Int),
 ∃
 (x_13
 :
 Int),
 ∃
 (x_14
 :
 Int),
 ∃
 (p_15
 :
 Option
 Addr),
 ∃
 (n_16
 :
 Nat),
 ∃
 (c_15
 :
 Nat),
 ∃
 (x_15
 :
 Int),
 ∃
 (x_16
 :
 Int),
 ∃
 (p_16
 :
 Option
 Addr),
 ∃
 (n_17
 :
 Nat),
 ∃
 (c_16
 :
 Nat),
 ∃
 (x_17
 :
 Bool),
 (∀
 (w' :
 World),
 S
 w' →
 AtL
 w'
 b
 (o +
 x.toNat *
 39)
 (arrI IntKind.u8 f_1 32 0 ++ [Value.int
 IntKind.i64
 x_13,
 Value.int
 IntKind.i64
 x_14,
 Value.slice
 p_15
 n_16
 c_15,
 Value.int
 IntKind.i64
 x_15,
 Value.int
 IntKind.i64
 x_16,
 Value.slice
 p_16
 n_17
 c_16,
 Value.bool
 x_17])) ∧
 CallsS
 Try.prog
 21
 #[Value.slice
 p_5
 n_6
 c_5,
 Value.agg
 (arrI IntKind.u8 f 32 0 ++ [Value.int
 IntKind.i64
 x_8,
 Value.int
 IntKind.i64
 x_9,
 Value.slice
 p_13
 n_14
 c_13,
 Value.int
 IntKind.i64
 x_10,
 Value.int
 IntKind.i64
 x_11,
 Value.slice
 p_14
 n_15
 c_14,
 Value.bool
 x_12]).toArray]
 W
 fun
 (e :
 Ending)
 (w'_5 :
 World) =>
 ∃
 (x_18
 :
 Int),
 e =
 Ending.returned
 (Value.int
 IntKind.i64
 x_18) ∧
 S
 w'_5 ∧
 CallsS
 Try.prog
 22
 #[Value.slice
 p_5
 n_6
 c_5,
 Value.agg
 (arrI IntKind.u8 f_1 32 0 ++ [Value.int
 IntKind.i64
 x_13,
 Value.int
 IntKind.i64
 x_14,
 Value.slice
 p_15
 n_16
 c_15,
 Value.int
 IntKind.i64
 x_15,
 Value.int
 IntKind.i64
 x_16,
 Value.slice
 p_16
 n_17
 c_16,
 Value.bool
 x_17]).toArray]
 w'_5
 fun
 (e :
 Ending)
 (w'_6 :
 World) =>
 ∃
 (x_19
 :
 Int),
 e =
 Ending.returned
 (Value.int
 IntKind.i64
 x_19) ∧
 KeptL
 [n_1]
 W
 w'_6 ∧
 nn
 true
 p_10
 fun
 (b
 o :
 Nat) =>
 (0 ≤
 x ∧
 x <
 (↑n_11 :
 Int)) ∧
 ∃
 (x_20
 :
 Bool),
 (∀
 (W :
 World),
 Loc
 w.heap.size
 [Blk.mk
 n_1
 25
 [Value.slice
 p
 n
 c,
 Value.slice
 q
 k
 d,
 Value.int
 IntKind.i64
 now,
 Value.int
 IntKind.i64
 budget]
 0]
 w'_6
 W →
 W.cell?
 (Addr.mk
 b
 (o +
 x.toNat *
 39 +
 38)
 none) =
 some
 (Value.bool
 x_20)) ∧
 nn
 x_20
 p_10
 fun
 (b
 o :
 Nat) =>
 gimp
 x_20
 (0 ≤
 x ∧
 x <
 (↑n_11 :
 Int)) ∧
 ∃
 (x_21
 :
 Int),
 gimp
 x_20
 (∀
 (W :
 World),
 Loc
 w.heap.size
 [Blk.mk
 n_1
 25
 [Value.slice
 p
 n
 c,
 Value.slice
 q
 k
 d,
 Value.int
 IntKind.i64
 now,
 Value.int
 IntKind.i64
 budget]
 0]
 w'_6
 W →
 W.cell?
 (Addr.mk
 b
 (o +
 x.toNat *
 39 +
 36)
 none) =
 some
 (Value.int
 IntKind.i64
 x_21)) ∧
 ∃
 (x_22
 :
 Int),
 gimp
 (!(x_20 &&
 x_21 ==
 0))
 (∀
 (W :
 World),
 Loc
 w.heap.size
 [Blk.mk
 n_1
 25
 [Value.slice
 p
 n
 c,
 Value.slice
 q
 k
 d,
 Value.int
 IntKind.i64
 now,
 Value.int
 IntKind.i64
 budget]
 0]
 w'_6
 W →
 W.cell?
 (Addr.mk
 n_1
 (0 +
 2)
 none) =
 some
 (Value.int
 IntKind.i64
 x_22)) ∧
 nn
 (!(x_20 &&
 x_21 ==
 0))
 p_10
 fun
 (b
 o :
 Nat) =>
 gimp
 (!(x_20 &&
 x_21 ==
 0))
 (0 ≤
 x ∧
 x <
 (↑n_11 :
 Int)) ∧
 ∃
 (x_23
 :
 Int),
 gimp
 (!(x_20 &&
 x_21 ==
 0))
 (∀
 (W :
 World),
 Loc
 w.heap.size
 [Blk.mk
 n_1
 25
 [Value.slice
 p
 n
 c,
 Value.slice
 q
 k
 d,
 Value.int
 IntKind.i64
 now,
 Value.int
 IntKind.i64
 budget]
 0]
 w'_6
 W →
 W.cell?
 (Addr.mk
 b
 (o +
 x.toNat *
 39 +
 33)
 none) =
 some
 (Value.int
 IntKind.i64
 x_23)) ∧
 ∃
 (x_24
 :
 Int),
 gimp
 (!(x_20 &&
 x_21 ==
 0 ||
 decide
 (x_22 ≥
 IntKind.i64.wrap
 (x_23 +
 IntKind.i64.wrap
 (x_19 *
 1440)))))
 (∀
 (W :
 World),
 Loc
 w.heap.size
 [Blk.mk
 n_1
 25
 [Value.slice
 p
 n
 c,
 Value.slice
 q
 k
 d,
 Value.int
 IntKind.i64
 now,
 Value.int
 IntKind.i64
 budget]
 0]
 w'_6
 W →
 W.cell?
 (Addr.mk
 n_1
 (0 +
 3)
 none) =
 some
 (Value.int
 IntKind.i64
 x_24)) ∧
 ∃
 (x_25
 :
 Int),
 gimp
 (!(x_20 &&
 x_21 ==
 0 ||
 decide
 (x_22 ≥
 IntKind.i64.wrap
 (x_23 +
 IntKind.i64.wrap
 (x_19 *
 1440)))) &&
 decide
 (x_1 >
 x_24))
 (∀
 (W :
 World),
 Loc
 w.heap.size
 [Blk.mk
 n_1
 25
 [Value.slice
 p
 n
 c,
 Value.slice
 q
 k
 d,
 Value.int
 IntKind.i64
 now,
 Value.int
 IntKind.i64
 budget]
 0]
 w'_6
 W →
 W.cell?
 (Addr.mk
 n_1
 (0 +
 2)
 none) =
 some
 (Value.int
 IntKind.i64
 x_25)) ∧
 nn
 (!(x_20 &&
 x_21 ==
 0 ||
 decide
 (x_22 ≥
 IntKind.i64.wrap
 (x_23 +
 IntKind.i64.wrap
 (x_19 *
 1440)))) &&
 decide
 (x_1 >
 x_24))
 p_10
 fun
 (b
 o :
 Nat) =>
 gimp
 (!(x_20 &&
 x_21 ==
 0 ||
 decide
 (x_22 ≥
 IntKind.i64.wrap
 (x_23 +
 IntKind.i64.wrap
 (x_19 *
 1440)))) &&
 decide
 (x_1 >
 x_24))
 (0 ≤
 x ∧
 x <
 (↑n_11 :
 Int)) ∧
 ∃
 (x_26
 :
 Int),
 gimp
 (!(x_20 &&
 x_21 ==
 0 ||
 decide
 (x_22 ≥
 IntKind.i64.wrap
 (x_23 +
 IntKind.i64.wrap
 (x_19 *
 1440)))) &&
 decide
 (x_1 >
 x_24))
 (∀
 (W :
 World),
 Loc
 w.heap.size
 [Blk.mk
 n_1
 25
 [Value.slice
 p
 n
 c,
 Value.slice
 q
 k
 d,
 Value.int
 IntKind.i64
 now,
 Value.int
 IntKind.i64
 budget]
 0]
 w'_6
 W →
 W.cell?
 (Addr.mk
 b
 (o +
 x.toNat *
 39 +
 33)
 none) =
 some
 (Value.int
 IntKind.i64
 x_26)) ∧
 bsp
 (x_20 &&
 x_21 ==
 0 ||
 decide
 (x_22 ≥
 IntKind.i64.wrap
 (x_23 +
 IntKind.i64.wrap
 (x_19 *
 1440))) ||
 decide
 (x_1 >
 x_24) &&
 decide
 (x_25 ≥
 IntKind.i64.wrap
 (x_26 +
 IntKind.i64.wrap
 (x_18 *
 1440))))
 (∀
 (W :
 World),
 Loc
 w.heap.size
 [Blk.mk
 n_1
 25
 [Value.slice
 p
 n
 c,
 Value.slice
 q
 k
 d,
 Value.int
 IntKind.i64
 now,
 Value.int
 IntKind.i64
 budget]
 0]
 w'_6
 W →
 R
 (Ending.returned
 (Value.bool
 false))
 W)
 (∀
 (W :
 World),
 Loc
 w.heap.size
 [Blk.mk
 n_1
 25
 [Value.slice
 p
 n
 c,
 Value.slice
 q
 k
 d,
 Value.int
 IntKind.i64
 now,
 Value.int
 IntKind.i64
 budget]
 0]
 w'_6
 W →
 I
 [Value.int
 IntKind.i64
 (IntKind.i64.wrap
 (x +
 1))]
 W ∧
 m
 [Value.int
 IntKind.i64
 (IntKind.i64.wrap
 (x +
 1))]
 W <
 m
 [Value.int
 IntKind.i64
 x]
 w')))
 (R
 (Ending.returned (Value.bool true))
 w'))))))
 (KeptL [n_1] w' w' ∧
 CallsS Try.prog 10 #[] w' fun (e : Ending) (w'_1 : World) =>
 ∃ (x : Bool),
 e = Ending.returned (Value.bool x) ∧ KeptL [n_1] w' w'_1 ∧ R (Ending.returned (Value.bool x)) w'_1)
theorem vc_lcompl (p : Option Addr) (n : Nat) (c : Nat) (q : Option Addr) (k : Nat) (d : Nat) (now : Int) (budget : Int) (w : World) (R : Ending → World → Prop) (h : VC_lcompl p n c q k d now budget w R) : Calls Try.prog 8 ([Value.agg
    #[Value.slice p n c, Value.slice q k d, Value.int IntKind.i64 now,
      Value.int IntKind.i64 budget]] : List Value).toArray w R := by
  have e : execR2 { P := Try.prog, loops := [(11, [(12, Ck.int IntKind.i64), (11, Ck.int IntKind.i64)]), (17, [(13, Ck.int IntKind.i64)])], pur := pur2, tails := [(3, 2), (19, 7), (20, 5)], joins := [], boxes := [] } Try.f8.results.toList R (Try.f8.body.getD .skip) (initF [Value.agg
    #[Value.slice p n c, Value.slice q k d, Value.int IntKind.i64 now,
      Value.int IntKind.i64
        budget]] (Try.f8.ntmps - ([Value.agg
    #[Value.slice p n c, Value.slice q k d, Value.int IntKind.i64 now,
      Value.int IntKind.i64 budget]] : List Value).length)) w = VC_lcompl p n c q k d now budget w R := by kernel_rfl
  have hb : Try.f8.body = some (Try.f8.body.getD .skip) := by kernel_rfl
  exact calls_of_exec2' (P := Try.prog) (fn := Try.f8) (c := Try.f8.body.getD .skip) (args := [Value.agg
    #[Value.slice p n c, Value.slice q k d, Value.int IntKind.i64 now,
      Value.int IntKind.i64 budget]]) (w := w) (R := R) pur2_ok Try.func8 hb e h

end Go.Proofs.Ytmjanmffnblcoaa

/- Chapter 42: the statements ExpiryPlan and ExpiryAgain return true, on worlds. -/
namespace Go.Proofs.Ytmjanmffnblcoaa
open Go.RowKit Go.Sort Go.Maps

theorem core_gs {x y : AX} (e : y.core = x.core) : y.gs = x.gs := by have := congrArg AX.gs e; exact this
theorem core_hs {x y : AX} (e : y.core = x.core) : y.hs = x.hs := by have := congrArg AX.hs e; exact this
theorem core_id {x y : AX} (e : y.core = x.core) : y.id = x.id := by have := congrArg AX.id e; exact this
theorem ArSz.core {x y : AX} (h : ArSz x) (e : y.core = x.core) : ArSz y := by
  have e1 := core_gs e
  have e2 := core_hs e
  have e3 := core_id e
  exact ⟨by rw [e1]; exact h.gl, by rw [e1]; exact h.gz, by rw [e2]; exact h.hl, by rw [e3]; exact h.id, by rw [e2]; exact h.hs⟩
theorem core_pls {l l' : List AX} (h : l'.map AX.core = l.map AX.core) : l'.map AX.pl = l.map AX.pl := by
  have := congrArg (List.map AX.pl) h
  rw [List.map_map, List.map_map] at this
  exact this
theorem core_len {l l' : List AX} (h : l'.map AX.core = l.map AX.core) : l'.length = l.length := by simpa using congrArg List.length h
theorem core_mem {l l' : List AX} (h : l'.map AX.core = l.map AX.core) {y : AX} (hy : y ∈ l') : ∃ x ∈ l, y.core = x.core := by
  have : y.core ∈ l'.map AX.core := List.mem_map.2 ⟨y, hy, rfl⟩
  rw [h] at this
  obtain ⟨x, hx, e⟩ := List.mem_map.1 this
  exact ⟨x, hx, e.symm⟩
theorem core_sz {l l' : List AX} (h : l'.map AX.core = l.map AX.core) (hs : ∀ x ∈ l, ArSz x) : ∀ y ∈ l', ArSz y := fun y hy => by
  obtain ⟨x, hx, e⟩ := core_mem h hy
  exact (hs x hx).core e
/-- What a small case tells. -/
structure Sml (L : List Rl) (l : List AX) : Prop where
  nL : L.length ≤ 10
  nl : l.length ≤ 12
  sz : ∀ x ∈ l, ArSz x
  gh : ∀ x ∈ l, x.gs.length ≤ 5 ∧ x.hs.length ≤ 5
  z : ∀ x ∈ l, ∀ z ∈ x.gs, z.size ≤ 60
theorem Sml.of {L : List Rl} {l : List AX} (h : smallB L l = true) (hr : ∀ x ∈ l, ArRd x) : Sml L l := by
  obtain ⟨_, h2, h3, h4⟩ := smallB_sz h
  exact ⟨h3, h4, fun x hx => (hr x hx).sz (h2 x hx), fun x hx => ⟨(smA_sz (h2 x hx)).1, (smA_sz (h2 x hx)).2.1⟩, fun x hx => (smA_sz (h2 x hx)).2.2⟩
theorem Sml.core {L : List Rl} {l l' : List AX} (h : Sml L l) (e : l'.map AX.core = l.map AX.core) : Sml L l' := by
  have key : ∀ y ∈ l', ∃ x ∈ l, y.gs = x.gs ∧ y.hs = x.hs := fun y hy => by
    obtain ⟨x, hx, e⟩ := core_mem e hy
    exact ⟨x, hx, core_gs e, core_hs e⟩
  refine ⟨h.nL, by rw [core_len e]; exact h.nl, core_sz e h.sz, fun y hy => ?_, fun y hy => ?_⟩
  · obtain ⟨x, hx, e1, e2⟩ := key y hy
    rw [e1, e2]; exact h.gh x hx
  · obtain ⟨x, hx, e1, _⟩ := key y hy
    rw [e1]; exact h.z x hx
theorem Sml.sub {L : List Rl} {l l' : List AX} (h : Sml L l) (hs : l'.Sublist l) : Sml L l' :=
  ⟨h.nL, Nat.le_trans hs.length_le h.nl, fun x hx => h.sz x (hs.subset hx), fun x hx => h.gh x (hs.subset hx), fun x hx => h.z x (hs.subset hx)⟩
theorem keep_pl {l : List AX} {R : List ((Nat → Int) × Nat)} {W : List (List Int × Nat)} (h : R.map whyS = W) : (l.filter (keepB R)).map AX.pl = (l.map AX.pl).filter (fun a => !decide (a.id ∈ W.map (·.1))) := by
  subst h
  rw [List.filter_map, List.map_map]
  congr 1
theorem ars_of {L : List Rl} {l : List AX} {now budget : Int} (h : planErr L (l.map AX.pl) now budget = 0) (hs : ∀ x ∈ l, ArSz x) : ArsOK (l.map AX.pl) :=
  ⟨(planErr_parts h).2.2.2.2, fun a ha => by
    obtain ⟨x, hx, rfl⟩ := List.mem_map.1 ha
    exact idI_bd (hs x hx).id⟩
set_option maxRecDepth 100000 in
set_option maxHeartbeats 2000000 in
theorem lplan_any (L : List Rl) (p : Option Addr) (c : Nat) (l : List AX) (q : Option Addr) (d : Nat) (now budget : Int) (w : World) (hR : RowA rlC 3 w p L) (hL : L.length ≤ 4611686018427387904) (hA : RowA axC 39 w q l) (hX : ∀ x ∈ l, AXR w x ∧ ArRd x) (hld : l.length ≤ d) (hl : l.length ≤ 4611686018427387904) :
    Calls Try.prog 6 #[.agg #[.slice p L.length c, .slice q l.length d, .int .i64 now, .int .i64 budget]] w fun e w' => e = .returned (.bool true) ∧ K0 w w' := by
  refine vc_lplan p L.length c q l.length d now budget w _ ?_
  intro n1 W hW
  have kW : K0 w W := hW.kk rfl
  refine ⟨(known_any W).mono fun e w1 ⟨he, k1⟩ => ⟨_, he, .of_k0 k1, ?_⟩⟩
  have hb1 := k1.blk (hW.cells 0 rfl) (fun h => h)
  have kw1 : K0 w w1 := kW.trans k1
  refine ⟨p, L.length, c, gimp_intro fun _ => cell_at hb1 rfl, q, l.length, d, gimp_intro fun _ => cell_at hb1 rfl, bsp_intro (fun _ => ?_) (fun h => absurd h (by decide))⟩
  refine ⟨(lsmall_any L p c l q d w1 (hR.k0 kw1) (hA.k0 kw1) (fun x hx => ((hX x hx).1.k0 kw1).gs) hL hl).mono fun e w2 ⟨he, k2⟩ => ⟨_, he, .of_k0 k2, ?_⟩⟩
  have kw2 : K0 w w2 := kw1.trans k2
  refine bsp_intro (fun _ => ⟨(known_any w2).mono fun e w4 ⟨he, k4⟩ => ⟨_, he, .of_k0 k4, rfl, kw2.trans k4⟩⟩) (fun hs W3 hW3 => ?_)
  have sm := Sml.of (L := L) (l := l) (by simpa using hs) (fun x hx => (hX x hx).2)
  have hsL := sm.nL
  have hsl := sm.nl
  have k3 : K0 w2 W3 := hW3.kk rfl
  have kw3 : K0 w W3 := kw2.trans k3
  have hb3 := hW3.cells 0 rfl
  refine ⟨fun wx => K0 W3 wx, .refl _ _, p, L.length, c, fun wx kx => cell_at (kx.blk hb3 (fun h => h)) rfl, q, l.length, d, fun wx kx => cell_at (kx.blk hb3 (fun h => h)) rfl, now, fun wx kx => cell_at (kx.blk hb3 (fun h => h)) rfl, budget, fun wx kx => cell_at (kx.blk hb3 (fun h => h)) rfl, ?_⟩
  refine ⟨(lrules_any L p c W3 (hR.k0 kw3) (by omega)).mono fun e w4 ⟨p4, c4, he, ho4, k4⟩ => ⟨_, _, _, he, k4, ?_⟩⟩
  have kw4 := kw3.trans k4
  refine ⟨(larticles_any l q d w4 (hA.k0 kw4) (fun x hx => (hX x hx).1.k0 kw4) (fun x hx => by have := (sm.gh x hx).2; omega) (by omega)).mono fun e w5 ⟨l5, p5, c5, he, hcore, ho5, hO, k5⟩ => ⟨_, _, _, he, k4.trans k5, ?_⟩⟩
  have kw5 := kw4.trans k5
  have sm5 := sm.core hcore
  have hs5 := sm5.nl
  have hpl := core_pls hcore
  refine ⟨(eplan_any L p4 c4 l5 p5 c5 now budget w5 ((RowA.own ho4 rlC_length (by decide)).k0 k5) (RowA.own ho5 axC_length (by decide)) (fun x hx => (hO x hx).r k5) sm5.sz (by omega)).mono fun e w6 ⟨k6, he⟩ => ?_⟩
  have kw6 := kw5.trans k6
  have hx := xplan_any L p c l q d now budget
  rw [hpl] at he
  rcases he with ⟨h0, he⟩ | ⟨h0, R, p6, c6, he, ho6, hplan, hRb⟩
  · -- an error
    refine ⟨_, _, _, _, he, .of_k0 ((k4.trans k5).trans k6), ?_⟩
    refine ⟨(hx w6 (hR.k0 kw6) (hA.k0 kw6) (fun x hx => (hX x hx).1.k0 kw6) sm.sz (fun x hx z hz => by have := sm.z x hx z hz; omega) (by omega) hld).mono fun e w7 ⟨k7, he⟩ => ?_⟩
    rcases he with ⟨_, he⟩ | ⟨h0', _⟩
    · refine ⟨_, _, _, _, _, _, _, he, .of_k0 k7, ?_⟩
      refine ⟨(lsame_any [] [] none 0 none 0 w7 RowA.nil RowA.nil rfl (fun r hr => by cases hr) (fun r hr => by cases hr) (by simp)).mono fun e w8 ⟨he, k8⟩ => ⟨_, he, .of_k0 k8, bsp_intro (fun h => by exfalso; simp at h) (fun _ => bsp_intro (fun _ => ⟨rfl, (kw6.trans k7).trans k8⟩) (fun h => by exfalso; simp at h; exact h0 h))⟩⟩
    · exact absurd h0' h0
  refine ⟨_, _, _, _, he, .of_k0 ((k4.trans k5).trans k6), ?_⟩
  refine ⟨(hx w6 (hR.k0 kw6) (hA.k0 kw6) (fun x hx => (hX x hx).1.k0 kw6) sm.sz (fun x hx z hz => by have := sm.z x hx z hz; omega) (by omega) hld).mono fun e w7 ⟨k7, he⟩ => ?_⟩
  rcases he with ⟨h0', _⟩ | ⟨_, R2, T2, p7, c7, p8, c8, he, ho7, ho8, hplan2, hT2, hR2b, hT2m⟩
  · exact absurd h0 h0'
  have kw7 := kw6.trans k7
  refine ⟨_, _, _, _, _, _, _, he, .of_k0 k7, ?_⟩
  have hlen5 := core_len hcore
  rw [hlen5] at hplan
  have hRR : R.map whyS = R2.map whyS := hplan.trans hplan2.symm
  have hrow6 : RowA whyC 33 w7 p6 R := (RowA.own ho6 whyC_length (by decide)).k0 k7
  have ars := ars_of h0 sm.sz
  obtain ⟨hst1, hst2⟩ := refp_stays (l := L) (now := now) (budget := budget) l.length (l.map AX.pl) ars
  have hRl : R.length ≤ 12 := by
    have h1 := congrArg List.length hplan
    rw [List.length_map] at h1
    rw [List.length_map] at hst2
    omega
  refine ⟨(lsame_any R R2 p6 c6 p7 c7 w7 hrow6 (RowA.own ho7 whyC_length (by decide)) hRR hRb hR2b (by omega)).mono fun e w8 ⟨he, k8⟩ => ⟨_, he, .of_k0 k8, bsp_intro (fun h => by exfalso; simp at h) (fun _ => bsp_intro (fun h => by exfalso; simp at h) (fun _ => ?_))⟩⟩
  have kw8 := kw7.trans k8
  refine ⟨(larticles_any l q d w8 (hA.k0 kw8) (fun x hx => (hX x hx).1.k0 kw8) (fun x hx => by have := (sm.gh x hx).2; omega) (by omega)).mono fun e w9 ⟨l9, p9, c9, he, hcore9, ho9, hO9, k9⟩ => ⟨_, _, _, he, .of_k0 k9, ?_⟩⟩
  have kw9 := kw8.trans k9
  have sm9 := sm.core hcore9
  have hs9 := sm9.nl
  refine ⟨(eafter_any l9 p9 c9 R p6 c6 w9 (RowA.own ho9 axC_length (by decide)) (fun x hx => (hO9 x hx).r k9) (hrow6.k0 (k8.trans k9)) (by omega) (by omega) (fun x hx => (sm9.sz x hx).id) hRb (fun x hx => by have := sm9.gh x hx; omega)).mono fun e w10 ⟨T, p10, c10, he, hTc, ho10, hT, k10⟩ => ⟨_, _, _, he, .of_k0 k10, ?_⟩⟩
  have kw10 := kw9.trans k10
  have hTpl : T.map AX.pl = T2.map AX.pl := by
    rw [core_pls hTc, keep_pl hplan, hT2, hst1, core_pls hcore9]
  have hTlen : T.length = T2.length := by simpa using congrArg List.length hTpl
  refine bsp_intro (fun h => by exfalso; simp [hTlen] at h) (fun _ => ?_)
  have hrT : RowA axC 39 w10 p10 T := RowA.own ho10 axC_length (by decide)
  have hrT2 : RowA axC 39 w10 p8 T2 := (RowA.own ho8 axC_length (by decide)).k0 ((k8.trans k9).trans k10)
  have hT12 : T.length ≤ 12 := by
    have h1 := congrArg List.length hTc
    rw [List.length_map, List.length_map] at h1
    have h2 := List.length_filter_le (keepB R) l9
    omega
  refine count1 T.length (by omega) (fun k wx => K0 w10 wx) (.refl _ _) ?_
  intro I m i w11 hi k11 next hL11
  refine bsp_intro (fun hlt => ?_) (fun _ => ⟨rfl, kw10.trans k11⟩)
  have hlt : i < T.length := by simp at hlt; omega
  obtain ⟨x, b, o, hx, hp, hat⟩ := (hrT.k0 k11).get hlt
  obtain ⟨y, b', o', hy, hp', hat'⟩ := (hrT2.k0 k11).get (k := i) (by omega)
  have hxy : x.pl = y.pl := by
    have h1 : (T.map AX.pl)[i]? = some x.pl := by rw [List.getElem?_map, hx]; rfl
    rw [hTpl, List.getElem?_map, hy] at h1
    simpa using h1.symm
  have hid : idI x.id = idI y.id := congrArg Ar.id hxy
  have hby : x.by_ = y.by_ := congrArg Ar.by_ hxy
  have hhl : x.hs.length = y.hs.length := by
    have := congrArg (fun a => a.holds.length) hxy
    simpa [AX.pl] using this
  have hxb : ∀ j, 0 ≤ x.id j ∧ x.id j ≤ 255 := by
    obtain ⟨z, hz, e⟩ := core_mem hTc (List.mem_of_getElem? hx)
    have e3 := core_id e
    rw [e3]
    exact (sm9.sz z (List.mem_filter.1 hz).1).id
  have hyb := (sm.sz y (hT2m y (List.mem_of_getElem? hy))).id
  have hE := idEq4 (idI_len x.id) (idI_bd hxb) (idI_len y.id) (idI_bd hyb)
  rw [show decide (idI x.id = idI y.id) = true by simp [hid]] at hE
  refine nn_eq hp ⟨by omega, x.id, fun W hW => by rw [Int.toNat_natCast]; exact (hat.k0 (hW.kk rfl)).pre, nn_eq hp' ⟨by omega, y.id, fun W hW => by rw [Int.toNat_natCast]; exact (hat'.k0 (hW.kk rfl)).pre, true, hE, ?_⟩⟩
  refine nn_eq hp ⟨gimp_intro fun _ => by omega, x.by_, gimp_intro fun _ W hW => by rw [Int.toNat_natCast]; exact (hat.k0 (hW.kk rfl)).cell (j := 35) rfl, nn_eq hp' ⟨gimp_intro fun _ => by omega, y.by_, gimp_intro fun _ W hW => by rw [Int.toNat_natCast]; exact (hat'.k0 (hW.kk rfl)).cell (j := 35) rfl, ?_⟩⟩
  refine nn_eq hp ⟨gimp_intro fun _ => by omega, x.hp, x.hs.length, x.hc, gimp_intro fun _ W hW => by rw [Int.toNat_natCast]; exact (hat.k0 (hW.kk rfl)).cell (j := 37) rfl, nn_eq hp' ⟨gimp_intro fun _ => by omega, y.hp, y.hs.length, y.hc, gimp_intro fun _ W hW => by rw [Int.toNat_natCast]; exact (hat'.k0 (hW.kk rfl)).cell (j := 37) rfl, ?_⟩⟩
  rw [hby, hhl]
  exact bsp_intro (fun h => by exfalso; simp at h) (fun _ W hW => next hlt W (k11.trans (hW.kk rfl)))
set_option maxRecDepth 100000 in
set_option maxHeartbeats 2000000 in
theorem lagain_any (L : List Rl) (p : Option Addr) (c : Nat) (l : List AX) (q : Option Addr) (d : Nat) (now budget : Int) (w : World) (hR : RowA rlC 3 w p L) (hL : L.length ≤ 4611686018427387904) (hA : RowA axC 39 w q l) (hX : ∀ x ∈ l, AXR w x ∧ ArRd x) (hl : l.length ≤ 4611686018427387904) :
    Calls Try.prog 9 #[.agg #[.slice p L.length c, .slice q l.length d, .int .i64 now, .int .i64 budget]] w fun e w' => e = .returned (.bool true) ∧ K0 w w' := by
  refine vc_lagain p L.length c q l.length d now budget w _ ?_
  intro n1 W hW
  have kW : K0 w W := hW.kk rfl
  refine ⟨(known_any W).mono fun e w1 ⟨he, k1⟩ => ⟨_, he, .of_k0 k1, ?_⟩⟩
  have hb1 := k1.blk (hW.cells 0 rfl) (fun h => h)
  have kw1 : K0 w w1 := kW.trans k1
  refine ⟨p, L.length, c, gimp_intro fun _ => cell_at hb1 rfl, q, l.length, d, gimp_intro fun _ => cell_at hb1 rfl, bsp_intro (fun _ => ?_) (fun h => absurd h (by decide))⟩
  refine ⟨(lsmall_any L p c l q d w1 (hR.k0 kw1) (hA.k0 kw1) (fun x hx => ((hX x hx).1.k0 kw1).gs) hL hl).mono fun e w2 ⟨he, k2⟩ => ⟨_, he, .of_k0 k2, ?_⟩⟩
  have kw2 : K0 w w2 := kw1.trans k2
  refine bsp_intro (fun _ => ⟨(known_any w2).mono fun e w4 ⟨he, k4⟩ => ⟨_, he, .of_k0 k4, rfl, kw2.trans k4⟩⟩) (fun hs W3 hW3 => ?_)
  have sm := Sml.of (L := L) (l := l) (by simpa using hs) (fun x hx => (hX x hx).2)
  have hsL := sm.nL
  have hsl := sm.nl
  have k3 : K0 w2 W3 := hW3.kk rfl
  have kw3 : K0 w W3 := kw2.trans k3
  have hb3 := hW3.cells 0 rfl
  refine ⟨fun wx => K0 W3 wx, .refl _ _, p, L.length, c, fun wx kx => cell_at (kx.blk hb3 (fun h => h)) rfl, q, l.length, d, fun wx kx => cell_at (kx.blk hb3 (fun h => h)) rfl, ?_⟩
  refine ⟨(lrules_any L p c W3 (hR.k0 kw3) (by omega)).mono fun e w4 ⟨p4, c4, he, ho4, k4⟩ => ⟨_, _, _, he, k4, ?_⟩⟩
  have kw4 := kw3.trans k4
  refine ⟨(larticles_any l q d w4 (hA.k0 kw4) (fun x hx => (hX x hx).1.k0 kw4) (fun x hx => by have := (sm.gh x hx).2; omega) (by omega)).mono fun e w5 ⟨l5, p5, c5, he, hcore, ho5, hO, k5⟩ => ⟨_, _, _, he, .of_k0 (k4.trans k5), ?_⟩⟩
  have kw5 := kw4.trans k5
  have sm5 := sm.core hcore
  have hs5 := sm5.nl
  have hR4 : RowA rlC 3 w4 p4 L := RowA.own ho4 rlC_length (by decide)
  have hA5 : RowA axC 39 w5 p5 l5 := RowA.own ho5 axC_length (by decide)
  have hX5 : ∀ x ∈ l5, AXR w5 x := fun x hx => (hO x hx).r k5
  refine ⟨(eplan_any L p4 c4 l5 p5 c5 now budget w5 (hR4.k0 k5) hA5 hX5 sm5.sz (by omega)).mono fun e w6 ⟨k6, he⟩ => ?_⟩
  have kw6 := kw5.trans k6
  have hb6 := ((k4.trans k5).trans k6).blk hb3 (fun h => h)
  rcases he with ⟨h0, he⟩ | ⟨h0, R, p6, c6, he, ho6, hplan, hRb⟩
  · exact ⟨_, _, _, _, he, .of_k0 k6, bsp_intro (fun _ => ⟨rfl, kw6⟩) (fun h => by exfalso; simp at h; exact h0 h)⟩
  refine ⟨_, _, _, _, he, .of_k0 k6, bsp_intro (fun h => by exfalso; simp at h) (fun _ W7 hW7 => ?_)⟩
  have k7 : K0 w6 W7 := hW7.kk rfl
  have kw7 := kw6.trans k7
  have hb7 := hW7.cells 0 rfl
  have ars := ars_of h0 sm5.sz
  obtain ⟨hst1, hst2⟩ := refp_stays (l := L) (now := now) (budget := budget) l5.length (l5.map AX.pl) ars
  have hRl : R.length ≤ 12 := by
    have h1 := congrArg List.length hplan
    rw [List.length_map] at h1
    rw [List.length_map] at hst2
    omega
  refine ⟨fun wx => K0 W7 wx, .refl _ _, now, fun wx kx => cell_at (kx.blk hb7 (fun h => h)) rfl, budget, fun wx kx => cell_at (kx.blk hb7 (fun h => h)) rfl, ?_⟩
  have k57 : K0 w5 W7 := k6.trans k7
  refine ⟨(eafter_any l5 p5 c5 R p6 c6 W7 (hA5.k0 k57) (fun x hx => (hX5 x hx).k0 k57) ((RowA.own ho6 whyC_length (by decide)).k0 k7) (by omega) (by omega) (fun x hx => (sm5.sz x hx).id) hRb (fun x hx => by have := sm5.gh x hx; omega)).mono fun e w8 ⟨T, p8, c8, he, hTc, ho8, hT, k8⟩ => ⟨_, _, _, he, k8, ?_⟩⟩
  have kw8 := kw7.trans k8
  have smT := (sm5.sub (List.filter_sublist (p := keepB R))).core hTc
  have hsT := smT.nl
  have hTpl : T.map AX.pl = (refP L now budget l5.length (l5.map AX.pl)).2 := by rw [core_pls hTc, keep_pl hplan, hst1]
  have hend := refp_end (l := L) (now := now) (budget := budget) l5.length (l5.map AX.pl) ars (by simp)
  have hzero : planErr L (T.map AX.pl) now budget = 0 := by
    rw [hTpl, hst1]
    exact planErr_sub h0 List.filter_sublist
  refine ⟨(eplan_any L p4 c4 T p8 c8 now budget w8 (hR4.k0 (((k5.trans k57).trans k8))) (RowA.own ho8 axC_length (by decide)) (fun x hx => (hT x hx).r) smT.sz (by omega)).mono fun e w9 ⟨k9, he⟩ => ?_⟩
  rcases he with ⟨h1, _⟩ | ⟨_, R9, p9, c9, he, _, hplan9, _⟩
  · exact absurd hzero h1
  have hnil : R9 = [] := by
    rw [hTpl] at hplan9
    have : (refP L now budget T.length (refP L now budget l5.length (l5.map AX.pl)).2).1 = [] := by
      cases T.length with
      | zero => rfl
      | succ n => simp only [refP, hend]
    rw [this] at hplan9
    simpa using hplan9
  subst hnil
  exact ⟨_, _, _, _, he, .of_k0 (k8.trans k9), rfl, kw8.trans k9⟩

end Go.Proofs.Ytmjanmffnblcoaa

/- Chapter 42: the statements ExpirySafe and ExpiryComplete return true, on worlds. -/
namespace Go.Proofs.Ytmjanmffnblcoaa
open Go.RowKit Go.Sort Go.Maps

theorem hereB_iff {l : List Ar} {i : List Int} : hereB l i = true ↔ i ∈ l.map (·.id) := by
  unfold hereB
  rw [List.any_eq_true, List.mem_map]
  constructor
  · rintro ⟨a, ha, e⟩; exact ⟨a, ha, of_decide_eq_true e⟩
  · rintro ⟨a, ha, e⟩; exact ⟨a, ha, decide_eq_true e⟩
set_option maxRecDepth 100000 in
set_option maxHeartbeats 2000000 in
theorem lsafe_any (L : List Rl) (p : Option Addr) (c : Nat) (l : List AX) (q : Option Addr) (d : Nat) (now budget : Int) (w : World) (hR : RowA rlC 3 w p L) (hL : L.length ≤ 4611686018427387904) (hA : RowA axC 39 w q l) (hX : ∀ x ∈ l, AXR w x ∧ ArRd x) (hl : l.length ≤ 4611686018427387904) :
    Calls Try.prog 7 #[.agg #[.slice p L.length c, .slice q l.length d, .int .i64 now, .int .i64 budget]] w fun e w' => e = .returned (.bool true) ∧ K0 w w' := by
  refine vc_lsafe p L.length c q l.length d now budget w _ ?_
  intro n1 W hW
  have kW : K0 w W := hW.kk rfl
  refine ⟨(known_any W).mono fun e w1 ⟨he, k1⟩ => ⟨_, he, .of_k0 k1, ?_⟩⟩
  have hb1 := k1.blk (hW.cells 0 rfl) (fun h => h)
  have kw1 : K0 w w1 := kW.trans k1
  refine ⟨p, L.length, c, gimp_intro fun _ => cell_at hb1 rfl, q, l.length, d, gimp_intro fun _ => cell_at hb1 rfl, bsp_intro (fun _ => ?_) (fun h => absurd h (by decide))⟩
  refine ⟨(lsmall_any L p c l q d w1 (hR.k0 kw1) (hA.k0 kw1) (fun x hx => ((hX x hx).1.k0 kw1).gs) hL hl).mono fun e w2 ⟨he, k2⟩ => ⟨_, he, .of_k0 k2, ?_⟩⟩
  have kw2 : K0 w w2 := kw1.trans k2
  refine bsp_intro (fun _ => ⟨(known_any w2).mono fun e w4 ⟨he, k4⟩ => ⟨_, he, .of_k0 k4, rfl, kw2.trans k4⟩⟩) (fun hs W3 hW3 => ?_)
  have sm := Sml.of (L := L) (l := l) (by simpa using hs) (fun x hx => (hX x hx).2)
  have hsL := sm.nL
  have hsl := sm.nl
  have k3 : K0 w2 W3 := hW3.kk rfl
  have kw3 : K0 w W3 := kw2.trans k3
  have hb3 := hW3.cells 0 rfl
  refine ⟨fun wx => K0 W3 wx, .refl _ _, p, L.length, c, fun wx kx => cell_at (kx.blk hb3 (fun h => h)) rfl, q, l.length, d, fun wx kx => cell_at (kx.blk hb3 (fun h => h)) rfl, ?_⟩
  refine ⟨(lrules_any L p c W3 (hR.k0 kw3) (by omega)).mono fun e w4 ⟨p4, c4, he, ho4, k4⟩ => ⟨_, _, _, he, k4, ?_⟩⟩
  have kw4 := kw3.trans k4
  refine ⟨(larticles_any l q d w4 (hA.k0 kw4) (fun x hx => (hX x hx).1.k0 kw4) (fun x hx => by have := (sm.gh x hx).2; omega) (by omega)).mono fun e w5 ⟨l5, p5, c5, he, hcore, ho5, hO, k5⟩ => ⟨_, _, _, he, .of_k0 (k4.trans k5), ?_⟩⟩
  have kw5 := kw4.trans k5
  have sm5 := sm.core hcore
  have hs5 := sm5.nl
  have hR4 : RowA rlC 3 w4 p4 L := RowA.own ho4 rlC_length (by decide)
  have hA5 : RowA axC 39 w5 p5 l5 := RowA.own ho5 axC_length (by decide)
  have hX5 : ∀ x ∈ l5, AXR w5 x := fun x hx => (hO x hx).r k5
  refine ⟨(eplan_any L p4 c4 l5 p5 c5 now budget w5 (hR4.k0 k5) hA5 hX5 sm5.sz (by omega)).mono fun e w6 ⟨k6, he⟩ => ?_⟩
  have kw6 := kw5.trans k6
  rcases he with ⟨h0, he⟩ | ⟨h0, R, p6, c6, he, ho6, hplan, hRb⟩
  · exact ⟨_, _, _, _, he, .of_k0 k6, bsp_intro (fun _ => ⟨rfl, kw6⟩) (fun h => by exfalso; simp at h; exact h0 h)⟩
  have ars := ars_of h0 sm5.sz
  obtain ⟨hst1, hst2⟩ := refp_stays (l := L) (now := now) (budget := budget) l5.length (l5.map AX.pl) ars
  have hRe : R.length = (refP L now budget l5.length (l5.map AX.pl)).1.length := by
    have h1 := congrArg List.length hplan
    rwa [List.length_map] at h1
  rw [List.length_map] at hst2
  have hRl : R.length ≤ 12 := by omega
  obtain ⟨hchk, hnow, hbud, hgood, hnd⟩ := planErr_parts h0
  have hrl := rlF_all (chkR_rlF hchk)
  refine ⟨_, _, _, _, he, .of_k0 k6, bsp_intro (fun h => by exfalso; simp at h) (fun _ => ?_)⟩
  refine ⟨(eafter_any l5 p5 c5 R p6 c6 w6 (hA5.k0 k6) (fun x hx => (hX5 x hx).k0 k6) (RowA.own ho6 whyC_length (by decide)) (by omega) (by omega) (fun x hx => (sm5.sz x hx).id) hRb (fun x hx => by have := sm5.gh x hx; omega)).mono fun e w8 ⟨T, p8, c8, he, hTc, ho8, hT, k8⟩ => ⟨_, _, _, he, .of_k0 k8, ?_⟩⟩
  have kw8 := kw6.trans k8
  have k58 : K0 w5 w8 := k6.trans k8
  have smT := (sm5.sub (List.filter_sublist (p := keepB R))).core hTc
  have hsT := smT.nl
  have hTpl : T.map AX.pl = (refP L now budget l5.length (l5.map AX.pl)).2 := by rw [core_pls hTc, keep_pl hplan, hst1]
  have hTlen : T.length = (refP L now budget l5.length (l5.map AX.pl)).2.length := by rw [← hTpl, List.length_map]
  have hTrow : RowA axC 39 w8 p8 T := RowA.own ho8 axC_length (by decide)
  have hTb : ∀ x ∈ T, ∀ j, 0 ≤ x.id j ∧ x.id j ≤ 255 := fun x hx => (smT.sz x hx).id
  refine bsp_intro (fun h => ?_) (fun _ => ?_)
  · exfalso
    rw [wr64 (by omega) (by omega)] at h
    simp at h
    omega
  refine ⟨fun vs w' => ∃ i : Nat, vs = [.int .i64 (i : Int)] ∧ i ≤ l5.length ∧ K0 w8 w', fun vs _ => (match vs with | .int _ a :: _ => l5.length - a.toNat | _ => 0), ⟨0, rfl, by omega, .refl _ _⟩, ?_⟩
  rintro a w9 ⟨i, hv, hi, k9⟩ hL9
  simp only [List.cons.injEq, Value.int.injEq, true_and, and_true] at hv
  subst hv
  refine bsp_intro (fun hlt => ?_) (fun _ => ⟨rfl, kw8.trans k9⟩)
  have hlt : i < l5.length := by simp at hlt; omega
  obtain ⟨x, b, o, hx, hp, hat⟩ := (hA5.k0 (k58.trans k9)).get hlt
  have hxl := List.mem_of_getElem? hx
  have szx := sm5.sz x hxl
  have hx5 := (sm5.gh x hxl).2
  have okx := arOK_of (hgood x.pl (List.mem_map.2 ⟨x, hxl, rfl⟩)) szx.gl szx.gz szx.hl szx.id szx.hs
  refine nn_eq hp ⟨by omega, x.id, x.dt, x.ar, x.gp, x.gs.length, x.gc, x.by_, x.ct, x.hp, x.hs.length, x.hc, x.wd, by rw [Int.toNat_natCast]; exact hat, fun n12 W10 hW10 => ?_⟩
  have k10 : K0 w9 W10 := hW10.kk rfl
  refine ⟨(lhere_any T p8 c8 x.id W10 (hTrow.k0 (k9.trans k10)) (by omega) hTb szx.id).mono fun e w11 ⟨he, k11⟩ => ⟨_, he, .of_k0 k11, ?_⟩⟩
  have k811 : K0 w8 w11 := (k9.trans k10).trans k11
  refine bsp_intro (fun _ => ⟨⟨i + 1, by rw [inc64 (by omega)], hlt, k811⟩, by rw [inc64 (by omega)]; simp only [Int.toNat_natCast]; omega⟩) (fun hgone W12 hW12 => ?_)
  have k12 : K0 w11 W12 := hW12.kk rfl
  have kE0 : K0 w8 W12 := k811.trans k12
  have hb12 := hW12.cells 1 rfl
  have hbc := hW12.cells 0 rfl
  -- it went
  have hrem : x.pl.id ∈ (refP L now budget l5.length (l5.map AX.pl)).1.map (·.1) := by
    refine Classical.byContradiction fun hn => ?_
    have hin : hereB (T.map AX.pl) (idI x.id) = true := by
      rw [hTpl, hereB_iff, hst1]
      exact List.mem_map.2 ⟨x.pl, List.mem_filter.2 ⟨List.mem_map.2 ⟨x, hxl, rfl⟩, by simp [hn]⟩, rfl⟩
    rw [hin] at hgone
    cases hgone
  obtain ⟨hperm, hmay, hholds⟩ := refp_safe (l := L) (now := now) (budget := budget) hrl l5.length (l5.map AX.pl) ars x.pl (List.mem_map.2 ⟨x, hxl, rfl⟩) hrem
  have hno : ∀ h ∈ x.hs, hereB (refP L now budget l5.length (l5.map AX.pl)).2 (idI h) = false := fun h hh => hholds (idI h) (List.mem_map.2 ⟨h, hh, rfl⟩)
  have hct3 : ¬ x.ct ≥ 3 := fun h => by
    have h5 := okx.ct
    have : permK x.ct = true := by
      unfold permK
      simp
      omega
    rw [show permK x.pl.ct = permK x.ct from rfl, this] at hperm
    cases hperm
  refine ⟨fun wx => K0 W12 wx, .refl _ _, x.ct, fun wx kx => cell_at (kx.blk hb12 (fun h => h)) rfl, x.wd, gimp_intro fun _ wx kx => cell_at (kx.blk hb12 (fun h => h)) rfl, now, gimp_intro fun _ wx kx => cell_at (kx.blk hbc (fun h => h)) rfl, x.ar, gimp_intro fun _ wx kx => cell_at (kx.blk hb12 (fun h => h)) rfl, x.id, x.dt, x.ar, x.gp, x.gs.length, x.gc, x.by_, x.ct, x.hp, x.hs.length, x.hc, x.wd, gimp_intro fun _ wx kx => AtL_block (kx.blk hb12 (fun h => h)) rfl, ?_⟩
  refine bsp_intro (fun _ => ?_) (fun h => by exfalso; simp at h; omega)
  refine bsp_intro (fun hwd => ?_) (fun hwd => ⟨.refl _ _, .of_k0 (.refl _ _), ?_⟩)
  · refine ⟨(eleast_any L p4 c4 x W12 (hR4.k0 ((k5.trans k58).trans kE0)) ((hX5 x hxl).gs.k0 (k58.trans kE0)) szx.gl szx.gz).mono fun e w12 ⟨he, k12'⟩ => ⟨_, he, k12', .of_k0 k12', ?_⟩⟩
    rw [if_pos hchk]
    have hd := daysR_bd hrl x.gs
    have har := okx.ar
    have hwd : x.wd = false := by simpa using hwd
    have hmay : x.ar + (daysR L x.gs).1 * 1440 ≤ now := by
      rcases hmay with h | h
      · rw [show x.pl.wd = x.wd from rfl, hwd] at h; cases h
      · unfold mayB at h; exact of_decide_eq_true h
    rw [wr64 (x := (daysR L x.gs).1 * 1440) (by omega) (by omega), wr64 (by omega) (by omega)]
    refine bsp_intro (fun h => by exfalso; simp at h; omega) (fun _ => ?_)
    · have kE : K0 w8 w12 := kE0.trans k12'
      refine ⟨fun vs w' => ∃ k : Nat, vs = [.int .i64 (k : Int)] ∧ k ≤ x.hs.length ∧ K0 w8 w', fun vs _ => (match vs with | .int _ a :: _ => x.hs.length - a.toNat | _ => 0), ⟨0, rfl, by omega, kE⟩, ?_⟩
      rintro a w13 ⟨k, hv, hk, k13⟩ hL13
      simp only [List.cons.injEq, Value.int.injEq, true_and, and_true] at hv
      subst hv
      refine bsp_intro (fun hlt2 => ?_) (fun _ => ⟨⟨i + 1, by rw [inc64 (by omega)], hlt, k13⟩, by rw [inc64 (by omega)]; simp only [Int.toNat_natCast]; omega⟩)
      have hlt2 : k < x.hs.length := by simp at hlt2; omega
      obtain ⟨h, b2, o2, hh, hhp, hhat⟩ := ((hX5 x hxl).hs.k0 (k58.trans k13)).get hlt2
      have hhl := List.mem_of_getElem? hh
      refine nn_eq hhp ⟨by omega, h, by rw [Int.toNat_natCast]; exact hhat, ⟨(lhere_any T p8 c8 h w13 (hTrow.k0 k13) (by omega) hTb (szx.hs h hhl)).mono fun e w14 ⟨he, k14⟩ => ⟨_, he, .of_k0 k14, ?_⟩⟩⟩
      rw [hTpl, hno h hhl]
      exact bsp_intro (fun h => absurd h (by decide)) (fun _ => ⟨⟨k + 1, by rw [inc64 (by omega)], hlt2, k13.trans k14⟩, by rw [inc64 (by omega)]; simp only [Int.toNat_natCast]; omega⟩)
  · · have kE : K0 w8 W12 := kE0
      refine ⟨fun vs w' => ∃ k : Nat, vs = [.int .i64 (k : Int)] ∧ k ≤ x.hs.length ∧ K0 w8 w', fun vs _ => (match vs with | .int _ a :: _ => x.hs.length - a.toNat | _ => 0), ⟨0, rfl, by omega, kE⟩, ?_⟩
      rintro a w13 ⟨k, hv, hk, k13⟩ hL13
      simp only [List.cons.injEq, Value.int.injEq, true_and, and_true] at hv
      subst hv
      refine bsp_intro (fun hlt2 => ?_) (fun _ => ⟨⟨i + 1, by rw [inc64 (by omega)], hlt, k13⟩, by rw [inc64 (by omega)]; simp only [Int.toNat_natCast]; omega⟩)
      have hlt2 : k < x.hs.length := by simp at hlt2; omega
      obtain ⟨h, b2, o2, hh, hhp, hhat⟩ := ((hX5 x hxl).hs.k0 (k58.trans k13)).get hlt2
      have hhl := List.mem_of_getElem? hh
      refine nn_eq hhp ⟨by omega, h, by rw [Int.toNat_natCast]; exact hhat, ⟨(lhere_any T p8 c8 h w13 (hTrow.k0 k13) (by omega) hTb (szx.hs h hhl)).mono fun e w14 ⟨he, k14⟩ => ⟨_, he, .of_k0 k14, ?_⟩⟩⟩
      rw [hTpl, hno h hhl]
      exact bsp_intro (fun h => absurd h (by decide)) (fun _ => ⟨⟨k + 1, by rw [inc64 (by omega)], hlt2, k13.trans k14⟩, by rw [inc64 (by omega)]; simp only [Int.toNat_natCast]; omega⟩)
set_option maxRecDepth 100000 in
set_option maxHeartbeats 2000000 in
theorem lcompl_any (L : List Rl) (p : Option Addr) (c : Nat) (l : List AX) (q : Option Addr) (d : Nat) (now budget : Int) (w : World) (hR : RowA rlC 3 w p L) (hL : L.length ≤ 4611686018427387904) (hA : RowA axC 39 w q l) (hX : ∀ x ∈ l, AXR w x ∧ ArRd x) (hld : l.length ≤ d) (hl : l.length ≤ 4611686018427387904) :
    Calls Try.prog 8 #[.agg #[.slice p L.length c, .slice q l.length d, .int .i64 now, .int .i64 budget]] w fun e w' => e = .returned (.bool true) ∧ K0 w w' := by
  refine vc_lcompl p L.length c q l.length d now budget w _ ?_
  intro n1 W hW
  have kW : K0 w W := hW.kk rfl
  refine ⟨(known_any W).mono fun e w1 ⟨he, k1⟩ => ⟨_, he, .of_k0 k1, ?_⟩⟩
  have hb1 := k1.blk (hW.cells 0 rfl) (fun h => h)
  have kw1 : K0 w w1 := kW.trans k1
  refine ⟨p, L.length, c, gimp_intro fun _ => cell_at hb1 rfl, q, l.length, d, gimp_intro fun _ => cell_at hb1 rfl, bsp_intro (fun _ => ?_) (fun h => absurd h (by decide))⟩
  refine ⟨(lsmall_any L p c l q d w1 (hR.k0 kw1) (hA.k0 kw1) (fun x hx => ((hX x hx).1.k0 kw1).gs) hL hl).mono fun e w2 ⟨he, k2⟩ => ⟨_, he, .of_k0 k2, ?_⟩⟩
  have kw2 : K0 w w2 := kw1.trans k2
  refine bsp_intro (fun _ => ⟨(known_any w2).mono fun e w4 ⟨he, k4⟩ => ⟨_, he, .of_k0 k4, rfl, kw2.trans k4⟩⟩) (fun hs W3 hW3 => ?_)
  have sm := Sml.of (L := L) (l := l) (by simpa using hs) (fun x hx => (hX x hx).2)
  have hsL := sm.nL
  have hsl := sm.nl
  have k3 : K0 w2 W3 := hW3.kk rfl
  have kw3 : K0 w W3 := kw2.trans k3
  have hb3 := hW3.cells 0 rfl
  refine ⟨fun wx => K0 W3 wx, .refl _ _, p, L.length, c, fun wx kx => cell_at (kx.blk hb3 (fun h => h)) rfl, q, l.length, d, fun wx kx => cell_at (kx.blk hb3 (fun h => h)) rfl, ?_⟩
  refine ⟨(lrules_any L p c W3 (hR.k0 kw3) (by omega)).mono fun e w4 ⟨p4, c4, he, ho4, k4⟩ => ⟨_, _, _, he, k4, ?_⟩⟩
  have kw4 := kw3.trans k4
  refine ⟨(larticles_any l q d w4 (hA.k0 kw4) (fun x hx => (hX x hx).1.k0 kw4) (fun x hx => by have := (sm.gh x hx).2; omega) (by omega)).mono fun e w5 ⟨l5, p5, c5, he, hcore, ho5, hO, k5⟩ => ⟨_, _, _, he, .of_k0 (k4.trans k5), ?_⟩⟩
  have kw5 := kw4.trans k5
  have sm5 := sm.core hcore
  have hs5 := sm5.nl
  have hR4 : RowA rlC 3 w4 p4 L := RowA.own ho4 rlC_length (by decide)
  have hA5 : RowA axC 39 w5 p5 l5 := RowA.own ho5 axC_length (by decide)
  have hX5 : ∀ x ∈ l5, AXR w5 x := fun x hx => (hO x hx).r k5
  refine ⟨(eplan_any L p4 c4 l5 p5 c5 now budget w5 (hR4.k0 k5) hA5 hX5 sm5.sz (by omega)).mono fun e w6 ⟨k6, he⟩ => ?_⟩
  have kw6 := kw5.trans k6
  rcases he with ⟨h0, he⟩ | ⟨h0, R, p6, c6, he, ho6, hplan, hRb⟩
  · exact ⟨_, _, _, _, he, .of_k0 k6, bsp_intro (fun _ => ⟨rfl, kw6⟩) (fun h => by exfalso; simp at h; exact h0 h)⟩
  have ars := ars_of h0 sm5.sz
  obtain ⟨hst1, hst2⟩ := refp_stays (l := L) (now := now) (budget := budget) l5.length (l5.map AX.pl) ars
  have hRe : R.length = (refP L now budget l5.length (l5.map AX.pl)).1.length := by
    have h1 := congrArg List.length hplan
    rwa [List.length_map] at h1
  rw [List.length_map] at hst2
  have hRl : R.length ≤ 12 := by omega
  obtain ⟨hchk, hnow, hbud, hgood, hnd⟩ := planErr_parts h0
  have hrl := rlF_all (chkR_rlF hchk)
  have hpl := core_pls hcore
  have hlen5 := core_len hcore
  refine ⟨_, _, _, _, he, .of_k0 k6, bsp_intro (fun h => by exfalso; simp at h) (fun _ => ?_)⟩
  refine ⟨(xplan_any L p c l q d now budget w6 (hR.k0 kw6) (hA.k0 kw6) (fun x hx => (hX x hx).1.k0 kw6) sm.sz (fun x hx z hz => by have := sm.z x hx z hz; omega) (by omega) hld).mono fun e w7 ⟨k7, he⟩ => ?_⟩
  rw [← hpl, ← hlen5] at he
  rcases he with ⟨h0', _⟩ | ⟨_, R2, S, p7, c7, p9, c9, he, ho7, ho9, hplan2, hS, _, hSm⟩
  · exact absurd h0 h0'
  have kw7 := kw6.trans k7
  refine ⟨_, _, _, _, _, _, _, he, .of_k0 k7, ?_⟩
  refine ⟨(eafter_any l5 p5 c5 R p6 c6 w7 (hA5.k0 (k6.trans k7)) (fun x hx => (hX5 x hx).k0 (k6.trans k7)) ((RowA.own ho6 whyC_length (by decide)).k0 k7) (by omega) (by omega) (fun x hx => (sm5.sz x hx).id) hRb (fun x hx => by have := sm5.gh x hx; omega)).mono fun e w8 ⟨T, p8, c8, he, hTc, ho8, hT, k8⟩ => ⟨_, _, _, he, .of_k0 k8, ?_⟩⟩
  have kw8 := kw7.trans k8
  have k58 : K0 w5 w8 := (k6.trans k7).trans k8
  have smT := (sm5.sub (List.filter_sublist (p := keepB R))).core hTc
  have hsT := smT.nl
  have hTpl : T.map AX.pl = (refP L now budget l5.length (l5.map AX.pl)).2 := by rw [core_pls hTc, keep_pl hplan, hst1]
  have hTS : T.map AX.pl = S.map AX.pl := hTpl.trans hS.symm
  have hTlen : T.length = S.length := by simpa using congrArg List.length hTS
  have hTrow : RowA axC 39 w8 p8 T := RowA.own ho8 axC_length (by decide)
  have hSrow : RowA axC 39 w8 p9 S := (RowA.own ho9 axC_length (by decide)).k0 k8
  have goodT : ∀ x ∈ T, ArOK x := fun x hx => by
    have szx := smT.sz x hx
    refine arOK_of (hgood x.pl ?_) szx.gl szx.gz szx.hl szx.id szx.hs
    have : x.pl ∈ T.map AX.pl := List.mem_map.2 ⟨x, hx, rfl⟩
    rw [hTpl, hst1] at this
    exact (List.mem_filter.1 this).1
  have goodS : ∀ x ∈ S, ArOK x := fun x hx => by
    have szx := sm.sz x (hSm x hx)
    refine arOK_of (hgood x.pl ?_) szx.gl szx.gz szx.hl szx.id szx.hs
    have : x.pl ∈ S.map AX.pl := List.mem_map.2 ⟨x, hx, rfl⟩
    rw [hS, hst1] at this
    exact (List.mem_filter.1 this).1
  have hend := refp_end (l := L) (now := now) (budget := budget) l5.length (l5.map AX.pl) ars (by simp)
  -- the bytes
  refine ⟨fun vs w' => ∃ i : Nat, vs = [.int .i64 (i : Int), .int .i64 (sumB (T.take i))] ∧ i ≤ T.length ∧ K0 w8 w', fun vs _ => (match vs with | .int _ a :: _ => T.length - a.toNat | _ => 0), ⟨0, rfl, by omega, .refl _ _⟩, ?_⟩
  rintro a s w9 ⟨i, hv, hi, k9⟩ hL9
  simp only [List.cons.injEq, Value.int.injEq, true_and, and_true] at hv
  obtain ⟨rfl, rfl⟩ := hv
  refine bsp_intro (fun hlt => ?_) (fun hge => ?_)
  · have hlt : i < T.length := by simp at hlt; omega
    obtain ⟨x, b, o, hx, hp, hat⟩ := (hTrow.k0 k9).get hlt
    have h1 := sumB_bd (T.take i) (fun y hy => (goodT y (List.mem_of_mem_take hy)).by_)
    have h2 := (goodT x (List.mem_of_getElem? hx)).by_
    rw [List.length_take] at h1
    refine nn_eq hp ⟨by omega, x.by_, by rw [Int.toNat_natCast]; exact hat.cell (j := 35) rfl, ⟨i + 1, ?_, hlt, k9⟩, by rw [inc64 (by omega)]; simp only [Int.toNat_natCast]; omega⟩
    rw [inc64 (by omega), take_snoc hx, sumB_snoc, wr64 (by omega) (by omega)]
  have hi : i = T.length := by simp at hge; omega
  subst hi
  rw [List.take_length]
  refine bsp_intro (fun h => by exfalso; simp [hTlen] at h) (fun _ => ?_)
  refine ⟨fun vs w' => ∃ i : Nat, vs = [.int .i64 (i : Int)] ∧ i ≤ T.length ∧ K0 w8 w', fun vs _ => (match vs with | .int _ a :: _ => T.length - a.toNat | _ => 0), ⟨0, rfl, by omega, k9⟩, ?_⟩
  rintro a w10 ⟨i, hv, hi, k10⟩ hL10
  simp only [List.cons.injEq, Value.int.injEq, true_and, and_true] at hv
  subst hv
  refine bsp_intro (fun hlt => ?_) (fun _ => ⟨rfl, kw8.trans k10⟩)
  have hlt : i < T.length := by simp at hlt; omega
  obtain ⟨x, b, o, hx, hp, hat⟩ := (hTrow.k0 k10).get hlt
  obtain ⟨y, b', o', hy, hp', hat'⟩ := (hSrow.k0 k10).get (k := i) (by omega)
  have hxl := List.mem_of_getElem? hx
  have hyl := List.mem_of_getElem? hy
  have hxy : x.pl = y.pl := by
    have h1 : (T.map AX.pl)[i]? = some x.pl := by rw [List.getElem?_map, hx]; rfl
    rw [hTS, List.getElem?_map, hy] at h1
    simpa using h1.symm
  refine nn_eq hp' ⟨by omega, y.id, y.dt, y.ar, y.gp, y.gs.length, y.gc, y.by_, y.ct, y.hp, y.hs.length, y.hc, y.wd, fun W hW => by rw [Int.toNat_natCast]; exact hat'.k0 (hW.kk rfl), fun W11 hW11 => ?_⟩
  have k11 : K0 w10 W11 := hW11.kk rfl
  have kw11 := (kw8.trans k10).trans k11
  refine ⟨(xprot_any S p9 c9 y now W11 (hSrow.k0 (k10.trans k11)) (by omega) (fun z hz => (goodS z hz).id) ((hX y (hSm y hyl)).1.k0 kw11) (goodS y hyl)).mono fun e w12 ⟨he, k12⟩ => ⟨_, he, .of_k0 k12, ?_⟩⟩
  have k812 : K0 w8 w12 := (k10.trans k11).trans k12
  refine bsp_intro (fun _ => ⟨⟨i + 1, by rw [inc64 (by omega)], hlt, k812⟩, by rw [inc64 (by omega)]; simp only [Int.toNat_natCast]; omega⟩) (fun hpr W13 hW13 => ?_)
  have k13 : K0 w12 W13 := hW13.kk rfl
  have k813 := k812.trans k13
  have szx := smT.sz x hxl
  have okx := goodT x hxl
  have hatx := hat.k0 ((k11.trans k12).trans k13)
  refine ⟨fun wx => K0 W13 wx, .refl _ _, nn_eq hp ⟨by omega, x.id, x.dt, x.ar, x.gp, x.gs.length, x.gc, x.by_, x.ct, x.hp, x.hs.length, x.hc, x.wd, fun wx kx => by rw [Int.toNat_natCast]; exact hatx.k0 kx, nn_eq hp ⟨by omega, x.id, x.dt, x.ar, x.gp, x.gs.length, x.gc, x.by_, x.ct, x.hp, x.hs.length, x.hc, x.wd, fun wx kx => by rw [Int.toNat_natCast]; exact hatx.k0 kx, ?_⟩⟩⟩
  have xgs := ((hT x hxl).r).gs
  refine ⟨(eleast_any L p4 c4 x W13 (hR4.k0 ((k5.trans k58).trans k813)) (xgs.k0 k813) szx.gl szx.gz).mono fun e w14 ⟨he, k14⟩ => ⟨_, he, k14, ?_⟩⟩
  refine ⟨(emost_any L p4 c4 x w14 (hR4.k0 (((k5.trans k58).trans k813).trans k14)) (xgs.k0 (k813.trans k14)) szx.gl szx.gz).mono fun e w15 ⟨he, k15⟩ => ⟨_, he, .of_k0 (k14.trans k15), ?_⟩⟩
  rw [if_pos hchk, if_pos hchk]
  have hc15 := (k14.trans k15).blk (hW13.cells 0 rfl) (fun h => h)
  have hat15 := hatx.k0 (k14.trans k15)
  have hd := daysR_bd hrl x.gs
  have har := okx.ar
  refine nn_eq hp ⟨by omega, x.wd, fun W hW => by rw [Int.toNat_natCast]; exact (hat15.k0 (hW.kk rfl)).cell (j := 38) rfl, nn_eq hp ⟨gimp_intro fun _ => by omega, x.ct, gimp_intro fun _ W hW => by rw [Int.toNat_natCast]; exact (hat15.k0 (hW.kk rfl)).cell (j := 36) rfl, now, gimp_intro fun _ W hW => cell_at ((hW.kk rfl).blk hc15 (fun h => h)) rfl, nn_eq hp ⟨gimp_intro fun _ => by omega, x.ar, gimp_intro fun _ W hW => by rw [Int.toNat_natCast]; exact (hat15.k0 (hW.kk rfl)).cell (j := 33) rfl, budget, gimp_intro fun _ W hW => cell_at ((hW.kk rfl).blk hc15 (fun h => h)) rfl, now, gimp_intro fun _ W hW => cell_at ((hW.kk rfl).blk hc15 (fun h => h)) rfl, nn_eq hp ⟨gimp_intro fun _ => by omega, x.ar, gimp_intro fun _ W hW => by rw [Int.toNat_natCast]; exact (hat15.k0 (hW.kk rfl)).cell (j := 33) rfl, ?_⟩⟩⟩⟩
  rw [wr64 (x := (daysR L x.gs).2 * 1440) (by omega) (by omega), wr64 (x := x.ar + (daysR L x.gs).2 * 1440) (by omega) (by omega), wr64 (x := (daysR L x.gs).1 * 1440) (by omega) (by omega), wr64 (x := x.ar + (daysR L x.gs).1 * 1440) (by omega) (by omega)]
  -- none of the reasons holds
  have hin : x.pl ∈ (refP L now budget l5.length (l5.map AX.pl)).2 := by rw [← hTpl]; exact List.mem_map.2 ⟨x, hxl, rfl⟩
  have hpr : protB now (refP L now budget l5.length (l5.map AX.pl)).2 x.pl = false := by
    rw [← hS, hxy]
    exact hpr
  have key : ∀ k, (k = 1 ∨ k = 2 ∨ k = 3) → reasB L now budget (totS (refP L now budget l5.length (l5.map AX.pl)).2) k x.pl = false := fun k hk => by
    have := pickR_none hend hk hin
    unfold goB at this
    rw [hpr] at this
    simpa using this
  have r1 := key 1 (.inl rfl)
  have r2 := key 2 (.inr (.inl rfl))
  have r3 := key 3 (.inr (.inr rfl))
  have e1 : (x.wd && x.ct == 0) = false := r1
  have e2 : decide (now ≥ x.ar + (daysR L x.gs).2 * 1440) = false := r2
  have e3 : (decide (sumB T > budget) && decide (now ≥ x.ar + (daysR L x.gs).1 * 1440)) = false := by
    rw [sumB_tot, hTpl]
    exact r3
  refine bsp_intro (fun h => ?_) (fun _ W hW => ⟨⟨i + 1, by rw [inc64 (by omega)], hlt, ((k813.trans k14).trans k15).trans (hW.kk rfl)⟩, by rw [inc64 (by omega)]; simp only [Int.toNat_natCast]; omega⟩)
  exfalso
  rw [e1, e2, e3] at h
  cases h

end Go.Proofs.Ytmjanmffnblcoaa
