/- The formulas of functions by the symbolic evaluator, and that each gives the call's contract. Written by a program (gen.py). No condition. -/
import Derived.Test.YtmjanmffnblcoaaProg
import Derived.Test.YtmjanmffnblcoaaZ02
import Derived.Test.YtmjanmffnblcoaaZ08
import Derived.Test.YtmjanmffnblcoaaZ04
import Derived.KernelRfl
import Derived.Test.YtmjanmffnblcoaaZ13
namespace Go.Proofs.Ytmjanmffnblcoaa
set_option maxRecDepth 100000
set_option linter.unusedVariables false

def VC_lplan (p : Option Addr) (n : Nat) (c : Nat) (q : Option Addr) (k : Nat) (d : Nat) (now : Int) (budget : Int) (w : World) (R : Ending → World → Prop) : Prop :=
 ∀ (n_1 : Nat) (W : World),
 Loc w.heap.size
 [Blk.mk n_1 25 [Value.slice p n c, Value.slice q k d, Value.int IntKind.i64 now, Value.int IntKind.i64 budget] 2] w
 W →
 CallsS Try.prog 10 #[] W fun (e : Ending) (w' : World) =>
 ∃ (x : Bool),
 e = Ending.returned (Value.bool x) ∧
 KeptL [n_1] W w' ∧
 ∃ (p_1 : Option Addr),
 ∃ (n_2 : Nat),
 ∃ (c_1 : Nat),
 gimp (!!x) (w'.cell? (Addr.mk n_1 0 none) = some (Value.slice p_1 n_2 c_1)) ∧
 ∃ (p_2 : Option Addr),
 ∃ (n_3 : Nat),
 ∃ (c_2 : Nat),
 gimp (!!x) (w'.cell? (Addr.mk n_1 (0 + 1) none) = some (Value.slice p_2 n_3 c_2)) ∧
 bsp (!!x)
 (CallsS Try.prog 11 #[Value.slice p_1 n_2 c_1, Value.slice p_2 n_3 c_2] w'
 fun (e : Ending) (w'_1 : World) =>
 ∃ (x : Bool),
 e = Ending.returned (Value.bool x) ∧
 KeptL [n_1] w' w'_1 ∧
 bsp (false || !x)
 (CallsS Try.prog 10 #[] w'_1 fun (e : Ending) (w' : World) =>
 ∃ (x : Bool),
 e = Ending.returned (Value.bool x) ∧ KeptL [n_1] w'_1 w' ∧ R (Ending.returned (Value.bool x)) w')
 (∀ (W : World),
 Loc w.heap.size
 [Blk.mk n_1 25
 [Value.slice p n c, Value.slice q k d, Value.int IntKind.i64 now, Value.int IntKind.i64 budget]
 0]
 w'_1 W →
 ∃ (S : World → Prop),
 S W ∧
 ∃ (p_3 : Option Addr),
 ∃ (n_4 : Nat),
 ∃ (c_3 : Nat),
 (∀ (w' : World), S w' → w'.cell? (Addr.mk n_1 0 none) = some (Value.slice p_3 n_4 c_3)) ∧
 ∃ (p_4 : Option Addr),
 ∃ (n_5 : Nat),
 ∃ (c_4 : Nat),
 (∀ (w' : World),
 S w' → w'.cell? (Addr.mk n_1 (0 + 1) none) = some (Value.slice p_4 n_5 c_4)) ∧
 ∃ (x : Int),
 (∀ (w' : World),
 S w' → w'.cell? (Addr.mk n_1 (0 + 2) none) = some (Value.int IntKind.i64 x)) ∧
 ∃ (x_1 : Int),
 (∀ (w' : World),
 S w' → w'.cell? (Addr.mk n_1 (0 + 3) none) = some (Value.int IntKind.i64 x_1)) ∧
 CallsS Try.prog 12 #[Value.slice p_3 n_4 c_3] W fun (e : Ending) (w' : World) =>
 ∃ (p_5 : Option Addr),
 ∃ (n_6 : Nat),
 ∃ (c_5 : Nat),
 e = Ending.returned (Value.slice p_5 n_6 c_5) ∧
 S w' ∧
 CallsS Try.prog 13 #[Value.slice p_4 n_5 c_4] w'
 fun (e : Ending) (w' : World) =>
 ∃ (p_6 : Option Addr),
 ∃ (n_7 : Nat),
 ∃ (c_6 : Nat),
 e = Ending.returned (Value.slice p_6 n_7 c_6) ∧
 S w' ∧
 CallsS Try.prog 14
 #[Value.slice p_5 n_6 c_5, Value.slice p_6 n_7 c_6,
 Value.int IntKind.i64 x, Value.int IntKind.i64 x_1]
 w' fun (e : Ending) (w' : World) =>
 ∃ (p_7 : Option Addr),
 ∃ (n_8 : Nat),
 ∃ (c_7 : Nat),
 ∃ (x : Int),
 e =
 Ending.returned
 (Value.tuple
 #[Value.slice p_7 n_8 c_7, Value.int IntKind.i64 x]) ∧
 KeptL [n_1] W w' ∧
 CallsS Try.prog 23
 #[Value.slice p n c, Value.slice q k d,
 Value.int IntKind.i64 now, Value.int IntKind.i64 budget]
 w' fun (e : Ending) (w'_2 : World) =>
 ∃ (p_8 : Option Addr),
 ∃ (n_9 : Nat),
 ∃ (c_8 : Nat),
 ∃ (p_9 : Option Addr),
 ∃ (n_10 : Nat),
 ∃ (c_9 : Nat),
 ∃ (x_2 : Int),
 e =
 Ending.returned
 (Value.tuple
 #[Value.slice p_8 n_9 c_8, Value.slice p_9 n_10 c_9,
 Value.int IntKind.i64 x_2]) ∧
 KeptL [n_1] w' w'_2 ∧
 CallsS Try.prog 24
 #[Value.slice p_7 n_8 c_7, Value.slice p_8 n_9 c_8]
 w'_2 fun (e : Ending) (w' : World) =>
 ∃ (x_3 : Bool),
 e = Ending.returned (Value.bool x_3) ∧
 KeptL [n_1] w'_2 w' ∧
 bsp (!x_3 || x != x_2)
 (R (Ending.returned (Value.bool false)) w')
 (bsp (x != 0)
 (R (Ending.returned (Value.bool true)) w')
 (CallsS Try.prog 13 #[Value.slice q k d] w'
 fun (e : Ending) (w'_3 : World) =>
 ∃ (p_10 : Option Addr),
 ∃ (n_11 : Nat),
 ∃ (c_10 : Nat),
 e =
 Ending.returned
 (Value.slice p_10 n_11 c_10) ∧
 KeptL [n_1] w' w'_3 ∧
 CallsS Try.prog 25
 #[Value.slice p_10 n_11 c_10,
 Value.slice p_7 n_8 c_7]
 w'_3 fun (e : Ending) (w' : World) =>
 ∃ (p_11 : Option Addr),
 ∃ (n_12 : Nat),
 ∃ (c_11 : Nat),
 e =
 Ending.returned
 (Value.slice p_11 n_12 c_11) ∧
 KeptL [n_1] w'_3 w' ∧
 bsp ((↑n_12 : Int) != (↑n_10 : Int))
 (R
 (Ending.returned
 (Value.bool false))
 w')
 (∃ (I : List Value → World → Prop),
 ∃ (m : List Value → World → Nat),
 I [Value.int IntKind.i64 0] w' ∧
 ∀ (x : Int) (w' : World),
 I [Value.int IntKind.i64 x] w' →
 Loc w.heap.size
 [Blk.mk n_1 25
 [Value.slice p n c,
 Value.slice q k d,
 Value.int IntKind.i64 now,
 Value.int IntKind.i64
 budget]
 0]
 w' w' →
 bsp
 (decide (x < (↑n_12 : Int)))
 (nn true p_11
 fun (b o : Nat) =>
 (0 ≤ x ∧
 x < (↑n_12 : Int)) ∧
 ∃ (f : Nat → Int),
 (∀ (W : World),
 Loc w.heap.size
 [Blk.mk n_1 25
 [Value.slice p n c,
 Value.slice q k d,
 Value.int
 IntKind.i64 now,
 Value.int
 IntKind.i64
 budget]
 0]
 w' W →
 AtL W b
 (o + x.toNat * 39)
 (arrI IntKind.u8 f 32 0)) ∧
 nn true p_9
 fun (b o : Nat) =>
 (0 ≤ x ∧
 x < (↑n_10 : Int)) ∧
 ∃ (f_1 : Nat → Int),
 (∀ (W : World),
 Loc w.heap.size
 [Blk.mk n_1 25
 [Value.slice p n
 c,
 Value.slice q k
 d,
 Value.int
 IntKind.i64
 now,
 Value.int
 IntKind.i64
 budget]
 0]
 w' W →
 AtL W b
 (o + x.toNat * 39)
 (arrI IntKind.u8 f_1 32 0)) ∧
 ∃ (r : Bool),
 EqP Try.prog 38
 (Value.agg
 (arrI IntKind.u8 f 32 0).toArray)
 (Value.agg
 (arrI IntKind.u8 f_1 32 0).toArray)
 r ∧
 nn (!!r) p_11
 fun (b o : Nat) =>
 gimp (!!r)
 (0 ≤ x ∧
 x <
 (↑n_12 :
 Int)) ∧
 ∃ (x_4 : Int),
 gimp (!!r)
 (∀
 (W : World),
 Loc
 w.heap.size
 [Blk.mk n_1
 25
 [Value.slice
 p n c,
 Value.slice
 q k d,
 Value.int
 IntKind.i64
 now,
 Value.int
 IntKind.i64
 budget]
 0]
 w' W →
 W.cell?
 (Addr.mk b
 (o +
 x.toNat *
 39 +
 35)
 none) =
 some
 (Value.int
 IntKind.i64
 x_4)) ∧
 nn (!!r) p_9
 fun
 (b o :
 Nat) =>
 gimp (!!r)
 (0 ≤ x ∧
 x <
 (↑n_10 :
 Int)) ∧
 ∃ (x_5 :
 Int),
 gimp (!!r)
 (∀
 (W :
 World),
 Loc
 w.heap.size
 [Blk.mk
 n_1
 25
 [Value.slice
 p n
 c,
 Value.slice
 q k
 d,
 Value.int
 IntKind.i64
 now,
 Value.int
 IntKind.i64
 budget]
 0]
 w' W →
 W.cell?
 (Addr.mk
 b
 (o +
 x.toNat *
 39 +
 35)
 none) =
 some
 (Value.int
 IntKind.i64
 x_5)) ∧
 nn
 (!(!r ||
 x_4 !=
 x_5))
 p_11
 fun
 (b o :
 Nat) =>
 gimp
 (!(!r ||
 x_4 !=
 x_5))
 (0 ≤ x ∧
 x <
 (↑n_12 :
 Int)) ∧
 ∃ (p_12 :
 Option
 Addr),
 ∃ (n_13
 : Nat),
 ∃ (c_12
 :
 Nat),
 gimp
 (!(!r ||
 x_4 !=
 x_5))
 (∀
 (W :
 World),
 Loc
 w.heap.size
 [Blk.mk
 n_1
 25
 [Value.slice
 p
 n
 c,
 Value.slice
 q
 k
 d,
 Value.int
 IntKind.i64
 now,
 Value.int
 IntKind.i64
 budget]
 0]
 w'
 W →
 W.cell?
 (Addr.mk
 b
 (o +
 x.toNat *
 39 +
 37)
 none) =
 some
 (Value.slice
 p_12
 n_13
 c_12)) ∧
 nn
 (!(!r ||
 x_4 !=
 x_5))
 p_9
 fun
 (b
 o :
 Nat) =>
 gimp
 (!(!r ||
 x_4 !=
 x_5))
 (0 ≤
 x ∧
 x <
 (↑n_10 :
 Int)) ∧
 ∃
 (p_13
 :
 Option
 Addr),
 ∃
 (n_14
 :
 Nat),
 ∃
 (c_13
 :
 Nat),
 gimp
 (!(!r ||
 x_4 !=
 x_5))
 (∀
 (W :
 World),
 Loc
 w.heap.size
 [Blk.mk
 n_1
 25
 [Value.slice
 p
 n
 c,
 Value.slice
 q
 k
 d,
 Value.int
 IntKind.i64
 now,
 Value.int
 IntKind.i64
 budget]
 0]
 w'
 W →
 W.cell?
 (Addr.mk
 b
 (o +
 x.toNat *
 39 +
 37)
 none) =
 some
 (Value.slice
 p_13
 n_14
 c_13)) ∧
 bsp
 (!r ||
 x_4 !=
 x_5 ||
 (↑n_13 :
 Int) !=
 (↑n_14 :
 Int))
 (∀
 (W :
 World),
 Loc
 w.heap.size
 [Blk.mk
 n_1
 25
 [Value.slice
 p
 n
 c,
 Value.slice
 q
 k
 d,
 Value.int
 IntKind.i64
 now,
 Value.int
 IntKind.i64
 budget]
 0]
 w'
 W →
 R
 (Ending.returned
 (Value.bool
 false))
 W)
 (∀
 (W :
 World),
 Loc
 w.heap.size
 [Blk.mk
 n_1
 25
 [Value.slice
 p
 n
 c,
 Value.slice
 q
 k
 d,
 Value.int
 IntKind.i64
 now,
 Value.int
 IntKind.i64
 budget]
 0]
 w'
 W →
 I
 [Value.int
 IntKind.i64
 (IntKind.i64.wrap
 (x +
 1))]
 W ∧
 m
 [Value.int
 IntKind.i64
 (IntKind.i64.wrap
 (x +
 1))]
 W <
 m
 [Value.int
 IntKind.i64
 x]
 w'))
 (R
 (Ending.returned
 (Value.bool true))
 w'))))))
 (KeptL [n_1] w' w' ∧
 CallsS Try.prog 10 #[] w' fun (e : Ending) (w'_1 : World) =>
 ∃ (x : Bool),
 e = Ending.returned (Value.bool x) ∧ KeptL [n_1] w' w'_1 ∧ R (Ending.returned (Value.bool x)) w'_1)
theorem vc_lplan (p : Option Addr) (n : Nat) (c : Nat) (q : Option Addr) (k : Nat) (d : Nat) (now : Int) (budget : Int) (w : World) (R : Ending → World → Prop) (h : VC_lplan p n c q k d now budget w R) : Calls Try.prog 6 ([Value.agg
    #[Value.slice p n c, Value.slice q k d, Value.int IntKind.i64 now,
      Value.int IntKind.i64 budget]] : List Value).toArray w R := by
  have e : execR2 { P := Try.prog, loops := [(13, [(9, Ck.int IntKind.i64)])], pur := pur2, tails := [(3, 2)], joins := [], boxes := [] } Try.f6.results.toList R (Try.f6.body.getD .skip) (initF [Value.agg
    #[Value.slice p n c, Value.slice q k d, Value.int IntKind.i64 now,
      Value.int IntKind.i64
        budget]] (Try.f6.ntmps - ([Value.agg
    #[Value.slice p n c, Value.slice q k d, Value.int IntKind.i64 now,
      Value.int IntKind.i64 budget]] : List Value).length)) w = VC_lplan p n c q k d now budget w R := by kernel_rfl
  have hb : Try.f6.body = some (Try.f6.body.getD .skip) := by kernel_rfl
  exact calls_of_exec2' (P := Try.prog) (fn := Try.f6) (c := Try.f6.body.getD .skip) (args := [Value.agg
    #[Value.slice p n c, Value.slice q k d, Value.int IntKind.i64 now,
      Value.int IntKind.i64 budget]]) (w := w) (R := R) pur2_ok Try.func6 hb e h

def VC_lsafe (p : Option Addr) (n : Nat) (c : Nat) (q : Option Addr) (k : Nat) (d : Nat) (now : Int) (budget : Int) (w : World) (R : Ending → World → Prop) : Prop :=
 ∀ (n_1 : Nat) (W : World),
 Loc w.heap.size
 [Blk.mk n_1 25 [Value.slice p n c, Value.slice q k d, Value.int IntKind.i64 now, Value.int IntKind.i64 budget] 2] w
 W →
 CallsS Try.prog 10 #[] W fun (e : Ending) (w' : World) =>
 ∃ (x : Bool),
 e = Ending.returned (Value.bool x) ∧
 KeptL [n_1] W w' ∧
 ∃ (p_1 : Option Addr),
 ∃ (n_2 : Nat),
 ∃ (c_1 : Nat),
 gimp (!!x) (w'.cell? (Addr.mk n_1 0 none) = some (Value.slice p_1 n_2 c_1)) ∧
 ∃ (p_2 : Option Addr),
 ∃ (n_3 : Nat),
 ∃ (c_2 : Nat),
 gimp (!!x) (w'.cell? (Addr.mk n_1 (0 + 1) none) = some (Value.slice p_2 n_3 c_2)) ∧
 bsp (!!x)
 (CallsS Try.prog 11 #[Value.slice p_1 n_2 c_1, Value.slice p_2 n_3 c_2] w'
 fun (e : Ending) (w'_1 : World) =>
 ∃ (x : Bool),
 e = Ending.returned (Value.bool x) ∧
 KeptL [n_1] w' w'_1 ∧
 bsp (false || !x)
 (CallsS Try.prog 10 #[] w'_1 fun (e : Ending) (w' : World) =>
 ∃ (x : Bool),
 e = Ending.returned (Value.bool x) ∧ KeptL [n_1] w'_1 w' ∧ R (Ending.returned (Value.bool x)) w')
 (∀ (W : World),
 Loc w.heap.size
 [Blk.mk n_1 25
 [Value.slice p n c, Value.slice q k d, Value.int IntKind.i64 now, Value.int IntKind.i64 budget]
 0]
 w'_1 W →
 ∃ (S : World → Prop),
 S W ∧
 ∃ (p_3 : Option Addr),
 ∃ (n_4 : Nat),
 ∃ (c_3 : Nat),
 (∀ (w' : World), S w' → w'.cell? (Addr.mk n_1 0 none) = some (Value.slice p_3 n_4 c_3)) ∧
 ∃ (p_4 : Option Addr),
 ∃ (n_5 : Nat),
 ∃ (c_4 : Nat),
 (∀ (w' : World),
 S w' → w'.cell? (Addr.mk n_1 (0 + 1) none) = some (Value.slice p_4 n_5 c_4)) ∧
 CallsS Try.prog 12 #[Value.slice p_3 n_4 c_3] W fun (e : Ending) (w' : World) =>
 ∃ (p_5 : Option Addr),
 ∃ (n_6 : Nat),
 ∃ (c_5 : Nat),
 e = Ending.returned (Value.slice p_5 n_6 c_5) ∧
 S w' ∧
 CallsS Try.prog 13 #[Value.slice p_4 n_5 c_4] w' fun (e : Ending) (w' : World) =>
 ∃ (p_6 : Option Addr),
 ∃ (n_7 : Nat),
 ∃ (c_6 : Nat),
 e = Ending.returned (Value.slice p_6 n_7 c_6) ∧
 KeptL [n_1] W w' ∧
 CallsS Try.prog 14
 #[Value.slice p_5 n_6 c_5, Value.slice p_6 n_7 c_6,
 Value.int IntKind.i64 now, Value.int IntKind.i64 budget]
 w' fun (e : Ending) (w'_2 : World) =>
 ∃ (p_7 : Option Addr),
 ∃ (n_8 : Nat),
 ∃ (c_7 : Nat),
 ∃ (x : Int),
 e =
 Ending.returned
 (Value.tuple #[Value.slice p_7 n_8 c_7, Value.int IntKind.i64 x]) ∧
 KeptL [n_1] w' w'_2 ∧
 bsp (x != 0)
 (R (Ending.returned (Value.bool ((↑n_8 : Int) == 0))) w'_2)
 (CallsS Try.prog 25
 #[Value.slice p_6 n_7 c_6, Value.slice p_7 n_8 c_7] w'_2
 fun (e : Ending) (w' : World) =>
 ∃ (p_8 : Option Addr),
 ∃ (n_9 : Nat),
 ∃ (c_8 : Nat),
 e = Ending.returned (Value.slice p_8 n_9 c_8) ∧
 KeptL [n_1] w'_2 w' ∧
 bsp
 (IntKind.i64.wrap ((↑n_9 : Int) + (↑n_8 : Int)) !=
 (↑n_7 : Int))
 (R (Ending.returned (Value.bool false)) w')
 (∃ (I : List Value → World → Prop),
 ∃ (m : List Value → World → Nat),
 I [Value.int IntKind.i64 0] w' ∧
 ∀ (x : Int) (w' : World),
 I [Value.int IntKind.i64 x] w' →
 Loc w.heap.size
 [Blk.mk n_1 25
 [Value.slice p n c, Value.slice q k d,
 Value.int IntKind.i64 now,
 Value.int IntKind.i64 budget]
 0]
 w' w' →
 bsp (decide (x < (↑n_7 : Int)))
 (nn true p_6 fun (b o : Nat) =>
 (0 ≤ x ∧ x < (↑n_7 : Int)) ∧
 ∃ (f : Nat → Int),
 ∃ (x_1 : Int),
 ∃ (x_2 : Int),
 ∃ (p_9 : Option Addr),
 ∃ (n_10 : Nat),
 ∃ (c_9 : Nat),
 ∃ (x_3 : Int),
 ∃ (x_4 : Int),
 ∃ (p_10 : Option Addr),
 ∃ (n_11 : Nat),
 ∃ (c_10 : Nat),
 ∃ (x_5 : Bool),
 AtL w' b (o + x.toNat * 39)
 (arrI IntKind.u8 f 32 0 ++ [Value.int IntKind.i64 x_1,
 Value.int IntKind.i64 x_2,
 Value.slice p_9 n_10 c_9,
 Value.int IntKind.i64 x_3,
 Value.int IntKind.i64 x_4,
 Value.slice p_10 n_11 c_10,
 Value.bool x_5]) ∧
 ∀ (n_12 : Nat) (W : World),
 Loc w.heap.size
 [Blk.mk n_1 25
 [Value.slice p n c,
 Value.slice q k d,
 Value.int IntKind.i64 now,
 Value.int IntKind.i64 budget]
 0,
 Blk.mk n_12 42
 (arrI IntKind.u8 f 32 0 ++ [Value.int IntKind.i64 x_1,
 Value.int IntKind.i64 x_2,
 Value.slice p_9 n_10 c_9,
 Value.int IntKind.i64 x_3,
 Value.int IntKind.i64 x_4,
 Value.slice p_10 n_11 c_10,
 Value.bool x_5])
 (wrM 2)]
 w' W →
 CallsS Try.prog 26
 #[Value.slice p_8 n_9 c_8,
 Value.agg
 (arrI IntKind.u8 f 32 0).toArray]
 W fun (e : Ending) (w'_3 : World) =>
 ∃ (x_6 : Bool),
 e =
 Ending.returned
 (Value.bool x_6) ∧
 KeptL [n_1, n_12] W w'_3 ∧
 bsp x_6
 (I
 [Value.int IntKind.i64
 (IntKind.i64.wrap (x + 1))]
 w'_3 ∧
 m
 [Value.int IntKind.i64
 (IntKind.i64.wrap (x + 1))]
 w'_3 <
 m [Value.int IntKind.i64 x]
 w')
 (∀ (W : World),
 Loc w.heap.size
 [Blk.mk n_1 25
 [Value.slice p n c,
 Value.slice q k d,
 Value.int IntKind.i64 now,
 Value.int IntKind.i64
 budget]
 0,
 Blk.mk n_12 42
 (arrI IntKind.u8 f 32 0 ++ [Value.int IntKind.i64 x_1,
 Value.int IntKind.i64 x_2,
 Value.slice p_9 n_10 c_9,
 Value.int IntKind.i64 x_3,
 Value.int IntKind.i64 x_4,
 Value.slice p_10 n_11
 c_10,
 Value.bool x_5])
 0]
 w'_3 W →
 ∃ (S : World → Prop),
 S W ∧
 ∃ (x_7 : Int),
 (∀ (w' : World),
 S w' →
 w'.cell?
 (Addr.mk n_12 (0 + 36)
 none) =
 some
 (Value.int IntKind.i64
 x_7)) ∧
 ∃ (x_8 : Bool),
 gimp (!decide (x_7 ≥ 3))
 (∀ (w' : World),
 S w' →
 w'.cell?
 (Addr.mk n_12
 (0 + 38) none) =
 some
 (Value.bool x_8)) ∧
 ∃ (x_9 : Int),
 gimp
 (!decide (x_7 ≥ 3) &&
 !x_8)
 (∀ (w' : World),
 S w' →
 w'.cell?
 (Addr.mk n_1
 (0 + 2) none) =
 some
 (Value.int
 IntKind.i64
 x_9)) ∧
 ∃ (x_10 : Int),
 gimp
 (!decide
 (x_7 ≥ 3) &&
 !x_8)
 (∀ (w' : World),
 S w' →
 w'.cell?
 (Addr.mk n_12
 (0 + 33)
 none) =
 some
 (Value.int
 IntKind.i64
 x_10)) ∧
 ∃ (f_1 : Nat → Int),
 ∃ (x_11 : Int),
 ∃ (x_12 : Int),
 ∃ (p_11 :
 Option Addr),
 ∃ (n_13 : Nat),
 ∃ (c_11 : Nat),
 ∃ (x_13 :
 Int),
 ∃ (x_14 :
 Int),
 ∃ (p_12 :
 Option
 Addr),
 ∃ (n_14 :
 Nat),
 ∃ (c_12 :
 Nat),
 ∃ (x_15 :
 Bool),
 gimp
 (!decide
 (x_7 ≥
 3) &&
 !x_8)
 (∀
 (w' :
 World),
 S
 w' →
 AtL
 w'
 n_12
 0
 (arrI IntKind.u8 f_1 32 0 ++ [Value.int
 IntKind.i64
 x_11,
 Value.int
 IntKind.i64
 x_12,
 Value.slice
 p_11
 n_13
 c_11,
 Value.int
 IntKind.i64
 x_13,
 Value.int
 IntKind.i64
 x_14,
 Value.slice
 p_12
 n_14
 c_12,
 Value.bool
 x_15])) ∧
 bsp
 (!decide
 (x_7 ≥
 3))
 (bsp
 (!x_8)
 (CallsS
 Try.prog
 21
 #[Value.slice
 p_5
 n_6
 c_5,
 Value.agg
 (arrI IntKind.u8 f_1 32 0 ++ [Value.int
 IntKind.i64
 x_11,
 Value.int
 IntKind.i64
 x_12,
 Value.slice
 p_11
 n_13
 c_11,
 Value.int
 IntKind.i64
 x_13,
 Value.int
 IntKind.i64
 x_14,
 Value.slice
 p_12
 n_14
 c_12,
 Value.bool
 x_15]).toArray]
 W
 fun
 (e :
 Ending)
 (w'_4 :
 World) =>
 ∃
 (x_16
 :
 Int),
 e =
 Ending.returned
 (Value.int
 IntKind.i64
 x_16) ∧
 S
 w'_4 ∧
 KeptL
 [n_1,
 n_12]
 W
 w'_4 ∧
 bsp
 (false ||
 true &&
 decide
 (x_9 <
 IntKind.i64.wrap
 (x_10 +
 IntKind.i64.wrap
 (x_16 *
 1440))))
 (R
 (Ending.returned
 (Value.bool
 false))
 w'_4)
 (∃
 (I_1
 :
 List
 Value →
 World →
 Prop),
 ∃
 (m_1
 :
 List
 Value →
 World →
 Nat),
 I_1
 [Value.int
 IntKind.i64
 0]
 w'_4 ∧
 ∀
 (x_17 :
 Int)
 (w'_5 :
 World),
 I_1
 [Value.int
 IntKind.i64
 x_17]
 w'_5 →
 Loc
 w.heap.size
 [Blk.mk
 n_1
 25
 [Value.slice
 p
 n
 c,
 Value.slice
 q
 k
 d,
 Value.int
 IntKind.i64
 now,
 Value.int
 IntKind.i64
 budget]
 0,
 Blk.mk
 n_12
 42
 (arrI IntKind.u8 f 32 0 ++ [Value.int
 IntKind.i64
 x_1,
 Value.int
 IntKind.i64
 x_2,
 Value.slice
 p_9
 n_10
 c_9,
 Value.int
 IntKind.i64
 x_3,
 Value.int
 IntKind.i64
 x_4,
 Value.slice
 p_10
 n_11
 c_10,
 Value.bool
 x_5])
 0]
 w'_5
 w'_5 →
 bsp
 (decide
 (x_17 <
 (↑n_11 :
 Int)))
 (nn
 true
 p_10
 fun
 (b
 o :
 Nat) =>
 (0 ≤
 x_17 ∧
 x_17 <
 (↑n_11 :
 Int)) ∧
 ∃
 (f
 :
 Nat →
 Int),
 AtL
 w'_5
 b
 (o +
 x_17.toNat *
 32)
 (arrI IntKind.u8 f 32 0) ∧
 CallsS
 Try.prog
 26
 #[Value.slice
 p_8
 n_9
 c_8,
 Value.agg
 (arrI IntKind.u8 f 32 0).toArray]
 w'_5
 fun
 (e :
 Ending)
 (w' :
 World) =>
 ∃
 (x
 :
 Bool),
 e =
 Ending.returned
 (Value.bool
 x) ∧
 KeptL
 [n_1,
 n_12]
 w'_5
 w' ∧
 bsp
 x
 (R
 (Ending.returned
 (Value.bool
 false))
 w')
 (I_1
 [Value.int
 IntKind.i64
 (IntKind.i64.wrap
 (x_17 +
 1))]
 w' ∧
 m_1
 [Value.int
 IntKind.i64
 (IntKind.i64.wrap
 (x_17 +
 1))]
 w' <
 m_1
 [Value.int
 IntKind.i64
 x_17]
 w'_5))
 (I
 [Value.int
 IntKind.i64
 (IntKind.i64.wrap
 (x +
 1))]
 w'_5 ∧
 m
 [Value.int
 IntKind.i64
 (IntKind.i64.wrap
 (x +
 1))]
 w'_5 <
 m
 [Value.int
 IntKind.i64
 x]
 w')))
 (S
 W ∧
 KeptL
 [n_1,
 n_12]
 W
 W ∧
 ∃
 (I_1
 :
 List
 Value →
 World →
 Prop),
 ∃
 (m_1
 :
 List
 Value →
 World →
 Nat),
 I_1
 [Value.int
 IntKind.i64
 0]
 W ∧
 ∀
 (x_16 :
 Int)
 (w'_4 :
 World),
 I_1
 [Value.int
 IntKind.i64
 x_16]
 w'_4 →
 Loc
 w.heap.size
 [Blk.mk
 n_1
 25
 [Value.slice
 p
 n
 c,
 Value.slice
 q
 k
 d,
 Value.int
 IntKind.i64
 now,
 Value.int
 IntKind.i64
 budget]
 0,
 Blk.mk
 n_12
 42
 (arrI IntKind.u8 f 32 0 ++ [Value.int
 IntKind.i64
 x_1,
 Value.int
 IntKind.i64
 x_2,
 Value.slice
 p_9
 n_10
 c_9,
 Value.int
 IntKind.i64
 x_3,
 Value.int
 IntKind.i64
 x_4,
 Value.slice
 p_10
 n_11
 c_10,
 Value.bool
 x_5])
 0]
 w'_4
 w'_4 →
 bsp
 (decide
 (x_16 <
 (↑n_11 :
 Int)))
 (nn
 true
 p_10
 fun
 (b
 o :
 Nat) =>
 (0 ≤
 x_16 ∧
 x_16 <
 (↑n_11 :
 Int)) ∧
 ∃
 (f
 :
 Nat →
 Int),
 AtL
 w'_4
 b
 (o +
 x_16.toNat *
 32)
 (arrI IntKind.u8 f 32 0) ∧
 CallsS
 Try.prog
 26
 #[Value.slice
 p_8
 n_9
 c_8,
 Value.agg
 (arrI IntKind.u8 f 32 0).toArray]
 w'_4
 fun
 (e :
 Ending)
 (w' :
 World) =>
 ∃
 (x
 :
 Bool),
 e =
 Ending.returned
 (Value.bool
 x) ∧
 KeptL
 [n_1,
 n_12]
 w'_4
 w' ∧
 bsp
 x
 (R
 (Ending.returned
 (Value.bool
 false))
 w')
 (I_1
 [Value.int
 IntKind.i64
 (IntKind.i64.wrap
 (x_16 +
 1))]
 w' ∧
 m_1
 [Value.int
 IntKind.i64
 (IntKind.i64.wrap
 (x_16 +
 1))]
 w' <
 m_1
 [Value.int
 IntKind.i64
 x_16]
 w'_4))
 (I
 [Value.int
 IntKind.i64
 (IntKind.i64.wrap
 (x +
 1))]
 w'_4 ∧
 m
 [Value.int
 IntKind.i64
 (IntKind.i64.wrap
 (x +
 1))]
 w'_4 <
 m
 [Value.int
 IntKind.i64
 x]
 w')))
 (S W ∧
 KeptL
 [n_1,
 n_12]
 W
 W ∧
 R
 (Ending.returned
 (Value.bool
 false))
 W)))
 (R (Ending.returned (Value.bool true)) w')))))
 (KeptL [n_1] w' w' ∧
 CallsS Try.prog 10 #[] w' fun (e : Ending) (w'_1 : World) =>
 ∃ (x : Bool),
 e = Ending.returned (Value.bool x) ∧ KeptL [n_1] w' w'_1 ∧ R (Ending.returned (Value.bool x)) w'_1)
theorem vc_lsafe (p : Option Addr) (n : Nat) (c : Nat) (q : Option Addr) (k : Nat) (d : Nat) (now : Int) (budget : Int) (w : World) (R : Ending → World → Prop) (h : VC_lsafe p n c q k d now budget w R) : Calls Try.prog 7 ([Value.agg
    #[Value.slice p n c, Value.slice q k d, Value.int IntKind.i64 now,
      Value.int IntKind.i64 budget]] : List Value).toArray w R := by
  have e : execR2 { P := Try.prog, loops := [(11, [(8, Ck.int IntKind.i64)]), (18, [(10, Ck.int IntKind.i64)])], pur := pur2, tails := [(3, 2), (15, 14)], joins := [], boxes := [] } Try.f7.results.toList R (Try.f7.body.getD .skip) (initF [Value.agg
    #[Value.slice p n c, Value.slice q k d, Value.int IntKind.i64 now,
      Value.int IntKind.i64
        budget]] (Try.f7.ntmps - ([Value.agg
    #[Value.slice p n c, Value.slice q k d, Value.int IntKind.i64 now,
      Value.int IntKind.i64 budget]] : List Value).length)) w = VC_lsafe p n c q k d now budget w R := by kernel_rfl
  have hb : Try.f7.body = some (Try.f7.body.getD .skip) := by kernel_rfl
  exact calls_of_exec2' (P := Try.prog) (fn := Try.f7) (c := Try.f7.body.getD .skip) (args := [Value.agg
    #[Value.slice p n c, Value.slice q k d, Value.int IntKind.i64 now,
      Value.int IntKind.i64 budget]]) (w := w) (R := R) pur2_ok Try.func7 hb e h

def VC_lcompl (p : Option Addr) (n : Nat) (c : Nat) (q : Option Addr) (k : Nat) (d : Nat) (now : Int) (budget : Int) (w : World) (R : Ending → World → Prop) : Prop :=
 ∀ (n_1 : Nat) (W : World),
 Loc w.heap.size
 [Blk.mk n_1 25 [Value.slice p n c, Value.slice q k d, Value.int IntKind.i64 now, Value.int IntKind.i64 budget] 2] w
 W →
 CallsS Try.prog 10 #[] W fun (e : Ending) (w' : World) =>
 ∃ (x : Bool),
 e = Ending.returned (Value.bool x) ∧
 KeptL [n_1] W w' ∧
 ∃ (p_1 : Option Addr),
 ∃ (n_2 : Nat),
 ∃ (c_1 : Nat),
 gimp (!!x) (w'.cell? (Addr.mk n_1 0 none) = some (Value.slice p_1 n_2 c_1)) ∧
 ∃ (p_2 : Option Addr),
 ∃ (n_3 : Nat),
 ∃ (c_2 : Nat),
 gimp (!!x) (w'.cell? (Addr.mk n_1 (0 + 1) none) = some (Value.slice p_2 n_3 c_2)) ∧
 bsp (!!x)
 (CallsS Try.prog 11 #[Value.slice p_1 n_2 c_1, Value.slice p_2 n_3 c_2] w'
 fun (e : Ending) (w'_1 : World) =>
 ∃ (x : Bool),
 e = Ending.returned (Value.bool x) ∧
 KeptL [n_1] w' w'_1 ∧
 bsp (false || !x)
 (CallsS Try.prog 10 #[] w'_1 fun (e : Ending) (w' : World) =>
 ∃ (x : Bool),
 e = Ending.returned (Value.bool x) ∧ KeptL [n_1] w'_1 w' ∧ R (Ending.returned (Value.bool x)) w')
 (∀ (W : World),
 Loc w.heap.size
 [Blk.mk n_1 25
 [Value.slice p n c, Value.slice q k d, Value.int IntKind.i64 now, Value.int IntKind.i64 budget]
 0]
 w'_1 W →
 ∃ (S : World → Prop),
 S W ∧
 ∃ (p_3 : Option Addr),
 ∃ (n_4 : Nat),
 ∃ (c_3 : Nat),
 (∀ (w' : World), S w' → w'.cell? (Addr.mk n_1 0 none) = some (Value.slice p_3 n_4 c_3)) ∧
 ∃ (p_4 : Option Addr),
 ∃ (n_5 : Nat),
 ∃ (c_4 : Nat),
 (∀ (w' : World),
 S w' → w'.cell? (Addr.mk n_1 (0 + 1) none) = some (Value.slice p_4 n_5 c_4)) ∧
 CallsS Try.prog 12 #[Value.slice p_3 n_4 c_3] W fun (e : Ending) (w' : World) =>
 ∃ (p_5 : Option Addr),
 ∃ (n_6 : Nat),
 ∃ (c_5 : Nat),
 e = Ending.returned (Value.slice p_5 n_6 c_5) ∧
 S w' ∧
 CallsS Try.prog 13 #[Value.slice p_4 n_5 c_4] w' fun (e : Ending) (w' : World) =>
 ∃ (p_6 : Option Addr),
 ∃ (n_7 : Nat),
 ∃ (c_6 : Nat),
 e = Ending.returned (Value.slice p_6 n_7 c_6) ∧
 KeptL [n_1] W w' ∧
 CallsS Try.prog 14
 #[Value.slice p_5 n_6 c_5, Value.slice p_6 n_7 c_6,
 Value.int IntKind.i64 now, Value.int IntKind.i64 budget]
 w' fun (e : Ending) (w'_2 : World) =>
 ∃ (p_7 : Option Addr),
 ∃ (n_8 : Nat),
 ∃ (c_7 : Nat),
 ∃ (x : Int),
 e =
 Ending.returned
 (Value.tuple #[Value.slice p_7 n_8 c_7, Value.int IntKind.i64 x]) ∧
 KeptL [n_1] w' w'_2 ∧
 bsp (x != 0) (R (Ending.returned (Value.bool true)) w'_2)
 (CallsS Try.prog 23
 #[Value.slice p n c, Value.slice q k d, Value.int IntKind.i64 now,
 Value.int IntKind.i64 budget]
 w'_2 fun (e : Ending) (w' : World) =>
 ∃ (p_8 : Option Addr),
 ∃ (n_9 : Nat),
 ∃ (c_8 : Nat),
 ∃ (p_9 : Option Addr),
 ∃ (n_10 : Nat),
 ∃ (c_9 : Nat),
 ∃ (x : Int),
 e =
 Ending.returned
 (Value.tuple
 #[Value.slice p_8 n_9 c_8, Value.slice p_9 n_10 c_9,
 Value.int IntKind.i64 x]) ∧
 KeptL [n_1] w'_2 w' ∧
 CallsS Try.prog 25
 #[Value.slice p_6 n_7 c_6, Value.slice p_7 n_8 c_7] w'
 fun (e : Ending) (w'_3 : World) =>
 ∃ (p_10 : Option Addr),
 ∃ (n_11 : Nat),
 ∃ (c_10 : Nat),
 e = Ending.returned (Value.slice p_10 n_11 c_10) ∧
 KeptL [n_1] w' w'_3 ∧
 ∃ (I : List Value → World → Prop),
 ∃ (m : List Value → World → Nat),
 I
 [Value.int IntKind.i64 0,
 Value.int IntKind.i64 0]
 w'_3 ∧
 ∀ (x x_1 : Int) (w' : World),
 I
 [Value.int IntKind.i64 x,
 Value.int IntKind.i64 x_1]
 w' →
 Loc w.heap.size
 [Blk.mk n_1 25
 [Value.slice p n c, Value.slice q k d,
 Value.int IntKind.i64 now,
 Value.int IntKind.i64 budget]
 0]
 w' w' →
 bsp (decide (x < (↑n_11 : Int)))
 (nn true p_10 fun (b o : Nat) =>
 (0 ≤ x ∧ x < (↑n_11 : Int)) ∧
 ∃ (x_2 : Int),
 w'.cell?
 (Addr.mk b (o + x.toNat * 39 + 35)
 none) =
 some (Value.int IntKind.i64 x_2) ∧
 I
 [Value.int IntKind.i64
 (IntKind.i64.wrap (x + 1)),
 Value.int IntKind.i64
 (IntKind.i64.wrap (x_1 + x_2))]
 w' ∧
 m
 [Value.int IntKind.i64
 (IntKind.i64.wrap (x + 1)),
 Value.int IntKind.i64
 (IntKind.i64.wrap (x_1 + x_2))]
 w' <
 m
 [Value.int IntKind.i64 x,
 Value.int IntKind.i64 x_1]
 w')
 (bsp ((↑n_11 : Int) != (↑n_10 : Int))
 (R (Ending.returned (Value.bool false)) w')
 (∃ (I : List Value → World → Prop),
 ∃ (m : List Value → World → Nat),
 I [Value.int IntKind.i64 0] w' ∧
 ∀ (x : Int) (w' : World),
 I [Value.int IntKind.i64 x] w' →
 Loc w.heap.size
 [Blk.mk n_1 25
 [Value.slice p n c,
 Value.slice q k d,
 Value.int IntKind.i64 now,
 Value.int IntKind.i64 budget]
 0]
 w' w' →
 bsp (decide (x < (↑n_11 : Int)))
 (nn true p_9 fun (b o : Nat) =>
 (0 ≤ x ∧ x < (↑n_10 : Int)) ∧
 ∃ (f : Nat → Int),
 ∃ (x_2 : Int),
 ∃ (x_3 : Int),
 ∃ (p_11 : Option Addr),
 ∃ (n_12 : Nat),
 ∃ (c_11 : Nat),
 ∃ (x_4 : Int),
 ∃ (x_5 : Int),
 ∃ (p_12 : Option Addr),
 ∃ (n_13 : Nat),
 ∃ (c_12 : Nat),
 ∃ (x_6 : Bool),
 (∀ (W : World),
 Loc w.heap.size
 [Blk.mk n_1 25
 [Value.slice p n
 c,
 Value.slice q k
 d,
 Value.int
 IntKind.i64
 now,
 Value.int
 IntKind.i64
 budget]
 0]
 w' W →
 AtL W b
 (o + x.toNat * 39)
 (arrI IntKind.u8 f 32 0 ++ [Value.int
 IntKind.i64 x_2,
 Value.int
 IntKind.i64 x_3,
 Value.slice p_11
 n_12 c_11,
 Value.int
 IntKind.i64 x_4,
 Value.int
 IntKind.i64 x_5,
 Value.slice p_12
 n_13 c_12,
 Value.bool x_6])) ∧
 ∀ (W : World),
 Loc w.heap.size
 [Blk.mk n_1 25
 [Value.slice p n
 c,
 Value.slice q k
 d,
 Value.int
 IntKind.i64
 now,
 Value.int
 IntKind.i64
 budget]
 0]
 w' W →
 CallsS Try.prog 27
 #[Value.slice p_9
 n_10 c_9,
 Value.agg
 (arrI IntKind.u8 f 32 0 ++ [Value.int
 IntKind.i64
 x_2,
 Value.int
 IntKind.i64
 x_3,
 Value.slice p_11
 n_12 c_11,
 Value.int
 IntKind.i64
 x_4,
 Value.int
 IntKind.i64
 x_5,
 Value.slice p_12
 n_13 c_12,
 Value.bool x_6]).toArray,
 Value.int
 IntKind.i64 now]
 W
 fun (e : Ending)
 (w'_4 : World) =>
 ∃ (x_7 : Bool),
 e =
 Ending.returned
 (Value.bool
 x_7) ∧
 KeptL [n_1] W
 w'_4 ∧
 bsp x_7
 (I
 [Value.int
 IntKind.i64
 (IntKind.i64.wrap
 (x + 1))]
 w'_4 ∧
 m
 [Value.int
 IntKind.i64
 (IntKind.i64.wrap
 (x + 1))]
 w'_4 <
 m
 [Value.int
 IntKind.i64
 x]
 w')
 (∀ (W : World),
 Loc
 w.heap.size
 [Blk.mk n_1
 25
 [Value.slice
 p n c,
 Value.slice
 q k d,
 Value.int
 IntKind.i64
 now,
 Value.int
 IntKind.i64
 budget]
 0]
 w'_4 W →
 ∃ (S :
 World →
 Prop),
 S W ∧
 nn true
 p_10
 fun
 (b o :
 Nat) =>
 (0 ≤ x ∧
 x <
 (↑n_11 :
 Int)) ∧
 ∃ (f :
 Nat →
 Int),
 ∃ (x_8 :
 Int),
 ∃ (x_9
 :
 Int),
 ∃
 (p_13
 :
 Option
 Addr),
 ∃
 (n_14
 :
 Nat),
 ∃
 (c_13
 :
 Nat),
 ∃
 (x_10
 :
 Int),
 ∃
 (x_11
 :
 Int),
 ∃
 (p_14
 :
 Option
 Addr),
 ∃
 (n_15
 :
 Nat),
 ∃
 (c_14
 :
 Nat),
 ∃
 (x_12
 :
 Bool),
 (∀
 (w' :
 World),
 S
 w' →
 AtL
 w'
 b
 (o +
 x.toNat *
 39)
 (arrI IntKind.u8 f 32 0 ++ [Value.int
 IntKind.i64
 x_8,
 Value.int
 IntKind.i64
 x_9,
 Value.slice
 p_13
 n_14
 c_13,
 Value.int
 IntKind.i64
 x_10,
 Value.int
 IntKind.i64
 x_11,
 Value.slice
 p_14
 n_15
 c_14,
 Value.bool
 x_12])) ∧
 nn
 true
 p_10
 fun
 (b
 o :
 Nat) =>
 (0 ≤
 x ∧
 x <
 (↑n_11 :
 Int)) ∧
 ∃
 (f_1
 :
 Nat →
 Int),
 ∃
 (x_13
 :
 Int),
 ∃
 (x_14
 :
 Int),
 ∃
 (p_15
 :
 Option
 Addr),
 ∃
 (n_16
 :
 Nat),
 ∃
 (c_15
 :
 Nat),
 ∃
 (x_15
 :
 Int),
 ∃
 (x_16
 :
 Int),
 ∃
 (p_16
 :
 Option
 Addr),
 ∃
 (n_17
 :
 Nat),
 ∃
 (c_16
 :
 Nat),
 ∃
 (x_17
 :
 Bool),
 (∀
 (w' :
 World),
 S
 w' →
 AtL
 w'
 b
 (o +
 x.toNat *
 39)
 (arrI IntKind.u8 f_1 32 0 ++ [Value.int
 IntKind.i64
 x_13,
 Value.int
 IntKind.i64
 x_14,
 Value.slice
 p_15
 n_16
 c_15,
 Value.int
 IntKind.i64
 x_15,
 Value.int
 IntKind.i64
 x_16,
 Value.slice
 p_16
 n_17
 c_16,
 Value.bool
 x_17])) ∧
 CallsS
 Try.prog
 21
 #[Value.slice
 p_5
 n_6
 c_5,
 Value.agg
 (arrI IntKind.u8 f 32 0 ++ [Value.int
 IntKind.i64
 x_8,
 Value.int
 IntKind.i64
 x_9,
 Value.slice
 p_13
 n_14
 c_13,
 Value.int
 IntKind.i64
 x_10,
 Value.int
 IntKind.i64
 x_11,
 Value.slice
 p_14
 n_15
 c_14,
 Value.bool
 x_12]).toArray]
 W
 fun
 (e :
 Ending)
 (w'_5 :
 World) =>
 ∃
 (x_18
 :
 Int),
 e =
 Ending.returned
 (Value.int
 IntKind.i64
 x_18) ∧
 S
 w'_5 ∧
 CallsS
 Try.prog
 22
 #[Value.slice
 p_5
 n_6
 c_5,
 Value.agg
 (arrI IntKind.u8 f_1 32 0 ++ [Value.int
 IntKind.i64
 x_13,
 Value.int
 IntKind.i64
 x_14,
 Value.slice
 p_15
 n_16
 c_15,
 Value.int
 IntKind.i64
 x_15,
 Value.int
 IntKind.i64
 x_16,
 Value.slice
 p_16
 n_17
 c_16,
 Value.bool
 x_17]).toArray]
 w'_5
 fun
 (e :
 Ending)
 (w'_6 :
 World) =>
 ∃
 (x_19
 :
 Int),
 e =
 Ending.returned
 (Value.int
 IntKind.i64
 x_19) ∧
 KeptL
 [n_1]
 W
 w'_6 ∧
 nn
 true
 p_10
 fun
 (b
 o :
 Nat) =>
 (0 ≤
 x ∧
 x <
 (↑n_11 :
 Int)) ∧
 ∃
 (x_20
 :
 Bool),
 (∀
 (W :
 World),
 Loc
 w.heap.size
 [Blk.mk
 n_1
 25
 [Value.slice
 p
 n
 c,
 Value.slice
 q
 k
 d,
 Value.int
 IntKind.i64
 now,
 Value.int
 IntKind.i64
 budget]
 0]
 w'_6
 W →
 W.cell?
 (Addr.mk
 b
 (o +
 x.toNat *
 39 +
 38)
 none) =
 some
 (Value.bool
 x_20)) ∧
 nn
 x_20
 p_10
 fun
 (b
 o :
 Nat) =>
 gimp
 x_20
 (0 ≤
 x ∧
 x <
 (↑n_11 :
 Int)) ∧
 ∃
 (x_21
 :
 Int),
 gimp
 x_20
 (∀
 (W :
 World),
 Loc
 w.heap.size
 [Blk.mk
 n_1
 25
 [Value.slice
 p
 n
 c,
 Value.slice
 q
 k
 d,
 Value.int
 IntKind.i64
 now,
 Value.int
 IntKind.i64
 budget]
 0]
 w'_6
 W →
 W.cell?
 (Addr.mk
 b
 (o +
 x.toNat *
 39 +
 36)
 none) =
 some
 (Value.int
 IntKind.i64
 x_21)) ∧
 ∃
 (x_22
 :
 Int),
 gimp
 (!(x_20 &&
 x_21 ==
 0))
 (∀
 (W :
 World),
 Loc
 w.heap.size
 [Blk.mk
 n_1
 25
 [Value.slice
 p
 n
 c,
 Value.slice
 q
 k
 d,
 Value.int
 IntKind.i64
 now,
 Value.int
 IntKind.i64
 budget]
 0]
 w'_6
 W →
 W.cell?
 (Addr.mk
 n_1
 (0 +
 2)
 none) =
 some
 (Value.int
 IntKind.i64
 x_22)) ∧
 nn
 (!(x_20 &&
 x_21 ==
 0))
 p_10
 fun
 (b
 o :
 Nat) =>
 gimp
 (!(x_20 &&
 x_21 ==
 0))
 (0 ≤
 x ∧
 x <
 (↑n_11 :
 Int)) ∧
 ∃
 (x_23
 :
 Int),
 gimp
 (!(x_20 &&
 x_21 ==
 0))
 (∀
 (W :
 World),
 Loc
 w.heap.size
 [Blk.mk
 n_1
 25
 [Value.slice
 p
 n
 c,
 Value.slice
 q
 k
 d,
 Value.int
 IntKind.i64
 now,
 Value.int
 IntKind.i64
 budget]
 0]
 w'_6
 W →
 W.cell?
 (Addr.mk
 b
 (o +
 x.toNat *
 39 +
 33)
 none) =
 some
 (Value.int
 IntKind.i64
 x_23)) ∧
 ∃
 (x_24
 :
 Int),
 gimp
 (!(x_20 &&
 x_21 ==
 0 ||
 decide
 (x_22 ≥
 IntKind.i64.wrap
 (x_23 +
 IntKind.i64.wrap
 (x_19 *
 1440)))))
 (∀
 (W :
 World),
 Loc
 w.heap.size
 [Blk.mk
 n_1
 25
 [Value.slice
 p
 n
 c,
 Value.slice
 q
 k
 d,
 Value.int
 IntKind.i64
 now,
 Value.int
 IntKind.i64
 budget]
 0]
 w'_6
 W →
 W.cell?
 (Addr.mk
 n_1
 (0 +
 3)
 none) =
 some
 (Value.int
 IntKind.i64
 x_24)) ∧
 ∃
 (x_25
 :
 Int),
 gimp
 (!(x_20 &&
 x_21 ==
 0 ||
 decide
 (x_22 ≥
 IntKind.i64.wrap
 (x_23 +
 IntKind.i64.wrap
 (x_19 *
 1440)))) &&
 decide
 (x_1 >
 x_24))
 (∀
 (W :
 World),
 Loc
 w.heap.size
 [Blk.mk
 n_1
 25
 [Value.slice
 p
 n
 c,
 Value.slice
 q
 k
 d,
 Value.int
 IntKind.i64
 now,
 Value.int
 IntKind.i64
 budget]
 0]
 w'_6
 W →
 W.cell?
 (Addr.mk
 n_1
 (0 +
 2)
 none) =
 some
 (Value.int
 IntKind.i64
 x_25)) ∧
 nn
 (!(x_20 &&
 x_21 ==
 0 ||
 decide
 (x_22 ≥
 IntKind.i64.wrap
 (x_23 +
 IntKind.i64.wrap
 (x_19 *
 1440)))) &&
 decide
 (x_1 >
 x_24))
 p_10
 fun
 (b
 o :
 Nat) =>
 gimp
 (!(x_20 &&
 x_21 ==
 0 ||
 decide
 (x_22 ≥
 IntKind.i64.wrap
 (x_23 +
 IntKind.i64.wrap
 (x_19 *
 1440)))) &&
 decide
 (x_1 >
 x_24))
 (0 ≤
 x ∧
 x <
 (↑n_11 :
 Int)) ∧
 ∃
 (x_26
 :
 Int),
 gimp
 (!(x_20 &&
 x_21 ==
 0 ||
 decide
 (x_22 ≥
 IntKind.i64.wrap
 (x_23 +
 IntKind.i64.wrap
 (x_19 *
 1440)))) &&
 decide
 (x_1 >
 x_24))
 (∀
 (W :
 World),
 Loc
 w.heap.size
 [Blk.mk
 n_1
 25
 [Value.slice
 p
 n
 c,
 Value.slice
 q
 k
 d,
 Value.int
 IntKind.i64
 now,
 Value.int
 IntKind.i64
 budget]
 0]
 w'_6
 W →
 W.cell?
 (Addr.mk
 b
 (o +
 x.toNat *
 39 +
 33)
 none) =
 some
 (Value.int
 IntKind.i64
 x_26)) ∧
 bsp
 (x_20 &&
 x_21 ==
 0 ||
 decide
 (x_22 ≥
 IntKind.i64.wrap
 (x_23 +
 IntKind.i64.wrap
 (x_19 *
 1440))) ||
 decide
 (x_1 >
 x_24) &&
 decide
 (x_25 ≥
 IntKind.i64.wrap
 (x_26 +
 IntKind.i64.wrap
 (x_18 *
 1440))))
 (∀
 (W :
 World),
 Loc
 w.heap.size
 [Blk.mk
 n_1
 25
 [Value.slice
 p
 n
 c,
 Value.slice
 q
 k
 d,
 Value.int
 IntKind.i64
 now,
 Value.int
 IntKind.i64
 budget]
 0]
 w'_6
 W →
 R
 (Ending.returned
 (Value.bool
 false))
 W)
 (∀
 (W :
 World),
 Loc
 w.heap.size
 [Blk.mk
 n_1
 25
 [Value.slice
 p
 n
 c,
 Value.slice
 q
 k
 d,
 Value.int
 IntKind.i64
 now,
 Value.int
 IntKind.i64
 budget]
 0]
 w'_6
 W →
 I
 [Value.int
 IntKind.i64
 (IntKind.i64.wrap
 (x +
 1))]
 W ∧
 m
 [Value.int
 IntKind.i64
 (IntKind.i64.wrap
 (x +
 1))]
 W <
 m
 [Value.int
 IntKind.i64
 x]
 w')))
 (R
 (Ending.returned (Value.bool true))
 w'))))))
 (KeptL [n_1] w' w' ∧
 CallsS Try.prog 10 #[] w' fun (e : Ending) (w'_1 : World) =>
 ∃ (x : Bool),
 e = Ending.returned (Value.bool x) ∧ KeptL [n_1] w' w'_1 ∧ R (Ending.returned (Value.bool x)) w'_1)
theorem vc_lcompl (p : Option Addr) (n : Nat) (c : Nat) (q : Option Addr) (k : Nat) (d : Nat) (now : Int) (budget : Int) (w : World) (R : Ending → World → Prop) (h : VC_lcompl p n c q k d now budget w R) : Calls Try.prog 8 ([Value.agg
    #[Value.slice p n c, Value.slice q k d, Value.int IntKind.i64 now,
      Value.int IntKind.i64 budget]] : List Value).toArray w R := by
  have e : execR2 { P := Try.prog, loops := [(11, [(12, Ck.int IntKind.i64), (11, Ck.int IntKind.i64)]), (17, [(13, Ck.int IntKind.i64)])], pur := pur2, tails := [(3, 2), (19, 7), (20, 5)], joins := [], boxes := [] } Try.f8.results.toList R (Try.f8.body.getD .skip) (initF [Value.agg
    #[Value.slice p n c, Value.slice q k d, Value.int IntKind.i64 now,
      Value.int IntKind.i64
        budget]] (Try.f8.ntmps - ([Value.agg
    #[Value.slice p n c, Value.slice q k d, Value.int IntKind.i64 now,
      Value.int IntKind.i64 budget]] : List Value).length)) w = VC_lcompl p n c q k d now budget w R := by kernel_rfl
  have hb : Try.f8.body = some (Try.f8.body.getD .skip) := by kernel_rfl
  exact calls_of_exec2' (P := Try.prog) (fn := Try.f8) (c := Try.f8.body.getD .skip) (args := [Value.agg
    #[Value.slice p n c, Value.slice q k d, Value.int IntKind.i64 now,
      Value.int IntKind.i64 budget]]) (w := w) (R := R) pur2_ok Try.func8 hb e h

end Go.Proofs.Ytmjanmffnblcoaa

/- Chapter 42: the statements ExpiryPlan and ExpiryAgain return true, on worlds. -/
namespace Go.Proofs.Ytmjanmffnblcoaa
open Go.RowKit Go.Sort Go.Maps

theorem core_gs {x y : AX} (e : y.core = x.core) : y.gs = x.gs := by have := congrArg AX.gs e; exact this
theorem core_hs {x y : AX} (e : y.core = x.core) : y.hs = x.hs := by have := congrArg AX.hs e; exact this
theorem core_id {x y : AX} (e : y.core = x.core) : y.id = x.id := by have := congrArg AX.id e; exact this
theorem ArSz.core {x y : AX} (h : ArSz x) (e : y.core = x.core) : ArSz y := by
  have e1 := core_gs e
  have e2 := core_hs e
  have e3 := core_id e
  exact ⟨by rw [e1]; exact h.gl, by rw [e1]; exact h.gz, by rw [e2]; exact h.hl, by rw [e3]; exact h.id, by rw [e2]; exact h.hs⟩
theorem core_pls {l l' : List AX} (h : l'.map AX.core = l.map AX.core) : l'.map AX.pl = l.map AX.pl := by
  have := congrArg (List.map AX.pl) h
  rw [List.map_map, List.map_map] at this
  exact this
theorem core_len {l l' : List AX} (h : l'.map AX.core = l.map AX.core) : l'.length = l.length := by simpa using congrArg List.length h
theorem core_mem {l l' : List AX} (h : l'.map AX.core = l.map AX.core) {y : AX} (hy : y ∈ l') : ∃ x ∈ l, y.core = x.core := by
  have : y.core ∈ l'.map AX.core := List.mem_map.2 ⟨y, hy, rfl⟩
  rw [h] at this
  obtain ⟨x, hx, e⟩ := List.mem_map.1 this
  exact ⟨x, hx, e.symm⟩
theorem core_sz {l l' : List AX} (h : l'.map AX.core = l.map AX.core) (hs : ∀ x ∈ l, ArSz x) : ∀ y ∈ l', ArSz y := fun y hy => by
  obtain ⟨x, hx, e⟩ := core_mem h hy
  exact (hs x hx).core e
/-- What a small case tells. -/
structure Sml (L : List Rl) (l : List AX) : Prop where
  nL : L.length ≤ 10
  nl : l.length ≤ 12
  sz : ∀ x ∈ l, ArSz x
  gh : ∀ x ∈ l, x.gs.length ≤ 5 ∧ x.hs.length ≤ 5
  z : ∀ x ∈ l, ∀ z ∈ x.gs, z.size ≤ 60
theorem Sml.of {L : List Rl} {l : List AX} (h : smallB L l = true) (hr : ∀ x ∈ l, ArRd x) : Sml L l := by
  obtain ⟨_, h2, h3, h4⟩ := smallB_sz h
  exact ⟨h3, h4, fun x hx => (hr x hx).sz (h2 x hx), fun x hx => ⟨(smA_sz (h2 x hx)).1, (smA_sz (h2 x hx)).2.1⟩, fun x hx => (smA_sz (h2 x hx)).2.2⟩
theorem Sml.core {L : List Rl} {l l' : List AX} (h : Sml L l) (e : l'.map AX.core = l.map AX.core) : Sml L l' := by
  have key : ∀ y ∈ l', ∃ x ∈ l, y.gs = x.gs ∧ y.hs = x.hs := fun y hy => by
    obtain ⟨x, hx, e⟩ := core_mem e hy
    exact ⟨x, hx, core_gs e, core_hs e⟩
  refine ⟨h.nL, by rw [core_len e]; exact h.nl, core_sz e h.sz, fun y hy => ?_, fun y hy => ?_⟩
  · obtain ⟨x, hx, e1, e2⟩ := key y hy
    rw [e1, e2]; exact h.gh x hx
  · obtain ⟨x, hx, e1, _⟩ := key y hy
    rw [e1]; exact h.z x hx
theorem Sml.sub {L : List Rl} {l l' : List AX} (h : Sml L l) (hs : l'.Sublist l) : Sml L l' :=
  ⟨h.nL, Nat.le_trans hs.length_le h.nl, fun x hx => h.sz x (hs.subset hx), fun x hx => h.gh x (hs.subset hx), fun x hx => h.z x (hs.subset hx)⟩
theorem keep_pl {l : List AX} {R : List ((Nat → Int) × Nat)} {W : List (List Int × Nat)} (h : R.map whyS = W) : (l.filter (keepB R)).map AX.pl = (l.map AX.pl).filter (fun a => !decide (a.id ∈ W.map (·.1))) := by
  subst h
  rw [List.filter_map, List.map_map]
  congr 1
theorem ars_of {L : List Rl} {l : List AX} {now budget : Int} (h : planErr L (l.map AX.pl) now budget = 0) (hs : ∀ x ∈ l, ArSz x) : ArsOK (l.map AX.pl) :=
  ⟨(planErr_parts h).2.2.2.2, fun a ha => by
    obtain ⟨x, hx, rfl⟩ := List.mem_map.1 ha
    exact idI_bd (hs x hx).id⟩
set_option maxRecDepth 100000 in
set_option maxHeartbeats 2000000 in
theorem lplan_any (L : List Rl) (p : Option Addr) (c : Nat) (l : List AX) (q : Option Addr) (d : Nat) (now budget : Int) (w : World) (hR : RowA rlC 3 w p L) (hL : L.length ≤ 4611686018427387904) (hA : RowA axC 39 w q l) (hX : ∀ x ∈ l, AXR w x ∧ ArRd x) (hld : l.length ≤ d) (hl : l.length ≤ 4611686018427387904) :
    Calls Try.prog 6 #[.agg #[.slice p L.length c, .slice q l.length d, .int .i64 now, .int .i64 budget]] w fun e w' => e = .returned (.bool true) ∧ K0 w w' := by
  refine vc_lplan p L.length c q l.length d now budget w _ ?_
  intro n1 W hW
  have kW : K0 w W := hW.kk rfl
  refine ⟨(known_any W).mono fun e w1 ⟨he, k1⟩ => ⟨_, he, .of_k0 k1, ?_⟩⟩
  have hb1 := k1.blk (hW.cells 0 rfl) (fun h => h)
  have kw1 : K0 w w1 := kW.trans k1
  refine ⟨p, L.length, c, gimp_intro fun _ => cell_at hb1 rfl, q, l.length, d, gimp_intro fun _ => cell_at hb1 rfl, bsp_intro (fun _ => ?_) (fun h => absurd h (by decide))⟩
  refine ⟨(lsmall_any L p c l q d w1 (hR.k0 kw1) (hA.k0 kw1) (fun x hx => ((hX x hx).1.k0 kw1).gs) hL hl).mono fun e w2 ⟨he, k2⟩ => ⟨_, he, .of_k0 k2, ?_⟩⟩
  have kw2 : K0 w w2 := kw1.trans k2
  refine bsp_intro (fun _ => ⟨(known_any w2).mono fun e w4 ⟨he, k4⟩ => ⟨_, he, .of_k0 k4, rfl, kw2.trans k4⟩⟩) (fun hs W3 hW3 => ?_)
  have sm := Sml.of (L := L) (l := l) (by simpa using hs) (fun x hx => (hX x hx).2)
  have hsL := sm.nL
  have hsl := sm.nl
  have k3 : K0 w2 W3 := hW3.kk rfl
  have kw3 : K0 w W3 := kw2.trans k3
  have hb3 := hW3.cells 0 rfl
  refine ⟨fun wx => K0 W3 wx, .refl _ _, p, L.length, c, fun wx kx => cell_at (kx.blk hb3 (fun h => h)) rfl, q, l.length, d, fun wx kx => cell_at (kx.blk hb3 (fun h => h)) rfl, now, fun wx kx => cell_at (kx.blk hb3 (fun h => h)) rfl, budget, fun wx kx => cell_at (kx.blk hb3 (fun h => h)) rfl, ?_⟩
  refine ⟨(lrules_any L p c W3 (hR.k0 kw3) (by omega)).mono fun e w4 ⟨p4, c4, he, ho4, k4⟩ => ⟨_, _, _, he, k4, ?_⟩⟩
  have kw4 := kw3.trans k4
  refine ⟨(larticles_any l q d w4 (hA.k0 kw4) (fun x hx => (hX x hx).1.k0 kw4) (fun x hx => by have := (sm.gh x hx).2; omega) (by omega)).mono fun e w5 ⟨l5, p5, c5, he, hcore, ho5, hO, k5⟩ => ⟨_, _, _, he, k4.trans k5, ?_⟩⟩
  have kw5 := kw4.trans k5
  have sm5 := sm.core hcore
  have hs5 := sm5.nl
  have hpl := core_pls hcore
  refine ⟨(eplan_any L p4 c4 l5 p5 c5 now budget w5 ((RowA.own ho4 rlC_length (by decide)).k0 k5) (RowA.own ho5 axC_length (by decide)) (fun x hx => (hO x hx).r k5) sm5.sz (by omega)).mono fun e w6 ⟨k6, he⟩ => ?_⟩
  have kw6 := kw5.trans k6
  have hx := xplan_any L p c l q d now budget
  rw [hpl] at he
  rcases he with ⟨h0, he⟩ | ⟨h0, R, p6, c6, he, ho6, hplan, hRb⟩
  · -- an error
    refine ⟨_, _, _, _, he, .of_k0 ((k4.trans k5).trans k6), ?_⟩
    refine ⟨(hx w6 (hR.k0 kw6) (hA.k0 kw6) (fun x hx => (hX x hx).1.k0 kw6) sm.sz (fun x hx z hz => by have := sm.z x hx z hz; omega) (by omega) hld).mono fun e w7 ⟨k7, he⟩ => ?_⟩
    rcases he with ⟨_, he⟩ | ⟨h0', _⟩
    · refine ⟨_, _, _, _, _, _, _, he, .of_k0 k7, ?_⟩
      refine ⟨(lsame_any [] [] none 0 none 0 w7 RowA.nil RowA.nil rfl (fun r hr => by cases hr) (fun r hr => by cases hr) (by simp)).mono fun e w8 ⟨he, k8⟩ => ⟨_, he, .of_k0 k8, bsp_intro (fun h => by exfalso; simp at h) (fun _ => bsp_intro (fun _ => ⟨rfl, (kw6.trans k7).trans k8⟩) (fun h => by exfalso; simp at h; exact h0 h))⟩⟩
    · exact absurd h0' h0
  refine ⟨_, _, _, _, he, .of_k0 ((k4.trans k5).trans k6), ?_⟩
  refine ⟨(hx w6 (hR.k0 kw6) (hA.k0 kw6) (fun x hx => (hX x hx).1.k0 kw6) sm.sz (fun x hx z hz => by have := sm.z x hx z hz; omega) (by omega) hld).mono fun e w7 ⟨k7, he⟩ => ?_⟩
  rcases he with ⟨h0', _⟩ | ⟨_, R2, T2, p7, c7, p8, c8, he, ho7, ho8, hplan2, hT2, hR2b, hT2m⟩
  · exact absurd h0 h0'
  have kw7 := kw6.trans k7
  refine ⟨_, _, _, _, _, _, _, he, .of_k0 k7, ?_⟩
  have hlen5 := core_len hcore
  rw [hlen5] at hplan
  have hRR : R.map whyS = R2.map whyS := hplan.trans hplan2.symm
  have hrow6 : RowA whyC 33 w7 p6 R := (RowA.own ho6 whyC_length (by decide)).k0 k7
  have ars := ars_of h0 sm.sz
  obtain ⟨hst1, hst2⟩ := refp_stays (l := L) (now := now) (budget := budget) l.length (l.map AX.pl) ars
  have hRl : R.length ≤ 12 := by
    have h1 := congrArg List.length hplan
    rw [List.length_map] at h1
    rw [List.length_map] at hst2
    omega
  refine ⟨(lsame_any R R2 p6 c6 p7 c7 w7 hrow6 (RowA.own ho7 whyC_length (by decide)) hRR hRb hR2b (by omega)).mono fun e w8 ⟨he, k8⟩ => ⟨_, he, .of_k0 k8, bsp_intro (fun h => by exfalso; simp at h) (fun _ => bsp_intro (fun h => by exfalso; simp at h) (fun _ => ?_))⟩⟩
  have kw8 := kw7.trans k8
  refine ⟨(larticles_any l q d w8 (hA.k0 kw8) (fun x hx => (hX x hx).1.k0 kw8) (fun x hx => by have := (sm.gh x hx).2; omega) (by omega)).mono fun e w9 ⟨l9, p9, c9, he, hcore9, ho9, hO9, k9⟩ => ⟨_, _, _, he, .of_k0 k9, ?_⟩⟩
  have kw9 := kw8.trans k9
  have sm9 := sm.core hcore9
  have hs9 := sm9.nl
  refine ⟨(eafter_any l9 p9 c9 R p6 c6 w9 (RowA.own ho9 axC_length (by decide)) (fun x hx => (hO9 x hx).r k9) (hrow6.k0 (k8.trans k9)) (by omega) (by omega) (fun x hx => (sm9.sz x hx).id) hRb (fun x hx => by have := sm9.gh x hx; omega)).mono fun e w10 ⟨T, p10, c10, he, hTc, ho10, hT, k10⟩ => ⟨_, _, _, he, .of_k0 k10, ?_⟩⟩
  have kw10 := kw9.trans k10
  have hTpl : T.map AX.pl = T2.map AX.pl := by
    rw [core_pls hTc, keep_pl hplan, hT2, hst1, core_pls hcore9]
  have hTlen : T.length = T2.length := by simpa using congrArg List.length hTpl
  refine bsp_intro (fun h => by exfalso; simp [hTlen] at h) (fun _ => ?_)
  have hrT : RowA axC 39 w10 p10 T := RowA.own ho10 axC_length (by decide)
  have hrT2 : RowA axC 39 w10 p8 T2 := (RowA.own ho8 axC_length (by decide)).k0 ((k8.trans k9).trans k10)
  have hT12 : T.length ≤ 12 := by
    have h1 := congrArg List.length hTc
    rw [List.length_map, List.length_map] at h1
    have h2 := List.length_filter_le (keepB R) l9
    omega
  refine count1 T.length (by omega) (fun k wx => K0 w10 wx) (.refl _ _) ?_
  intro I m i w11 hi k11 next hL11
  refine bsp_intro (fun hlt => ?_) (fun _ => ⟨rfl, kw10.trans k11⟩)
  have hlt : i < T.length := by simp at hlt; omega
  obtain ⟨x, b, o, hx, hp, hat⟩ := (hrT.k0 k11).get hlt
  obtain ⟨y, b', o', hy, hp', hat'⟩ := (hrT2.k0 k11).get (k := i) (by omega)
  have hxy : x.pl = y.pl := by
    have h1 : (T.map AX.pl)[i]? = some x.pl := by rw [List.getElem?_map, hx]; rfl
    rw [hTpl, List.getElem?_map, hy] at h1
    simpa using h1.symm
  have hid : idI x.id = idI y.id := congrArg Ar.id hxy
  have hby : x.by_ = y.by_ := congrArg Ar.by_ hxy
  have hhl : x.hs.length = y.hs.length := by
    have := congrArg (fun a => a.holds.length) hxy
    simpa [AX.pl] using this
  have hxb : ∀ j, 0 ≤ x.id j ∧ x.id j ≤ 255 := by
    obtain ⟨z, hz, e⟩ := core_mem hTc (List.mem_of_getElem? hx)
    have e3 := core_id e
    rw [e3]
    exact (sm9.sz z (List.mem_filter.1 hz).1).id
  have hyb := (sm.sz y (hT2m y (List.mem_of_getElem? hy))).id
  have hE := idEq4 (idI_len x.id) (idI_bd hxb) (idI_len y.id) (idI_bd hyb)
  rw [show decide (idI x.id = idI y.id) = true by simp [hid]] at hE
  refine nn_eq hp ⟨by omega, x.id, fun W hW => by rw [Int.toNat_natCast]; exact (hat.k0 (hW.kk rfl)).pre, nn_eq hp' ⟨by omega, y.id, fun W hW => by rw [Int.toNat_natCast]; exact (hat'.k0 (hW.kk rfl)).pre, true, hE, ?_⟩⟩
  refine nn_eq hp ⟨gimp_intro fun _ => by omega, x.by_, gimp_intro fun _ W hW => by rw [Int.toNat_natCast]; exact (hat.k0 (hW.kk rfl)).cell (j := 35) rfl, nn_eq hp' ⟨gimp_intro fun _ => by omega, y.by_, gimp_intro fun _ W hW => by rw [Int.toNat_natCast]; exact (hat'.k0 (hW.kk rfl)).cell (j := 35) rfl, ?_⟩⟩
  refine nn_eq hp ⟨gimp_intro fun _ => by omega, x.hp, x.hs.length, x.hc, gimp_intro fun _ W hW => by rw [Int.toNat_natCast]; exact (hat.k0 (hW.kk rfl)).cell (j := 37) rfl, nn_eq hp' ⟨gimp_intro fun _ => by omega, y.hp, y.hs.length, y.hc, gimp_intro fun _ W hW => by rw [Int.toNat_natCast]; exact (hat'.k0 (hW.kk rfl)).cell (j := 37) rfl, ?_⟩⟩
  rw [hby, hhl]
  exact bsp_intro (fun h => by exfalso; simp at h) (fun _ W hW => next hlt W (k11.trans (hW.kk rfl)))
set_option maxRecDepth 100000 in
set_option maxHeartbeats 2000000 in
theorem lagain_any (L : List Rl) (p : Option Addr) (c : Nat) (l : List AX) (q : Option Addr) (d : Nat) (now budget : Int) (w : World) (hR : RowA rlC 3 w p L) (hL : L.length ≤ 4611686018427387904) (hA : RowA axC 39 w q l) (hX : ∀ x ∈ l, AXR w x ∧ ArRd x) (hl : l.length ≤ 4611686018427387904) :
    Calls Try.prog 9 #[.agg #[.slice p L.length c, .slice q l.length d, .int .i64 now, .int .i64 budget]] w fun e w' => e = .returned (.bool true) ∧ K0 w w' := by
  refine vc_lagain p L.length c q l.length d now budget w _ ?_
  intro n1 W hW
  have kW : K0 w W := hW.kk rfl
  refine ⟨(known_any W).mono fun e w1 ⟨he, k1⟩ => ⟨_, he, .of_k0 k1, ?_⟩⟩
  have hb1 := k1.blk (hW.cells 0 rfl) (fun h => h)
  have kw1 : K0 w w1 := kW.trans k1
  refine ⟨p, L.length, c, gimp_intro fun _ => cell_at hb1 rfl, q, l.length, d, gimp_intro fun _ => cell_at hb1 rfl, bsp_intro (fun _ => ?_) (fun h => absurd h (by decide))⟩
  refine ⟨(lsmall_any L p c l q d w1 (hR.k0 kw1) (hA.k0 kw1) (fun x hx => ((hX x hx).1.k0 kw1).gs) hL hl).mono fun e w2 ⟨he, k2⟩ => ⟨_, he, .of_k0 k2, ?_⟩⟩
  have kw2 : K0 w w2 := kw1.trans k2
  refine bsp_intro (fun _ => ⟨(known_any w2).mono fun e w4 ⟨he, k4⟩ => ⟨_, he, .of_k0 k4, rfl, kw2.trans k4⟩⟩) (fun hs W3 hW3 => ?_)
  have sm := Sml.of (L := L) (l := l) (by simpa using hs) (fun x hx => (hX x hx).2)
  have hsL := sm.nL
  have hsl := sm.nl
  have k3 : K0 w2 W3 := hW3.kk rfl
  have kw3 : K0 w W3 := kw2.trans k3
  have hb3 := hW3.cells 0 rfl
  refine ⟨fun wx => K0 W3 wx, .refl _ _, p, L.length, c, fun wx kx => cell_at (kx.blk hb3 (fun h => h)) rfl, q, l.length, d, fun wx kx => cell_at (kx.blk hb3 (fun h => h)) rfl, ?_⟩
  refine ⟨(lrules_any L p c W3 (hR.k0 kw3) (by omega)).mono fun e w4 ⟨p4, c4, he, ho4, k4⟩ => ⟨_, _, _, he, k4, ?_⟩⟩
  have kw4 := kw3.trans k4
  refine ⟨(larticles_any l q d w4 (hA.k0 kw4) (fun x hx => (hX x hx).1.k0 kw4) (fun x hx => by have := (sm.gh x hx).2; omega) (by omega)).mono fun e w5 ⟨l5, p5, c5, he, hcore, ho5, hO, k5⟩ => ⟨_, _, _, he, .of_k0 (k4.trans k5), ?_⟩⟩
  have kw5 := kw4.trans k5
  have sm5 := sm.core hcore
  have hs5 := sm5.nl
  have hR4 : RowA rlC 3 w4 p4 L := RowA.own ho4 rlC_length (by decide)
  have hA5 : RowA axC 39 w5 p5 l5 := RowA.own ho5 axC_length (by decide)
  have hX5 : ∀ x ∈ l5, AXR w5 x := fun x hx => (hO x hx).r k5
  refine ⟨(eplan_any L p4 c4 l5 p5 c5 now budget w5 (hR4.k0 k5) hA5 hX5 sm5.sz (by omega)).mono fun e w6 ⟨k6, he⟩ => ?_⟩
  have kw6 := kw5.trans k6
  have hb6 := ((k4.trans k5).trans k6).blk hb3 (fun h => h)
  rcases he with ⟨h0, he⟩ | ⟨h0, R, p6, c6, he, ho6, hplan, hRb⟩
  · exact ⟨_, _, _, _, he, .of_k0 k6, bsp_intro (fun _ => ⟨rfl, kw6⟩) (fun h => by exfalso; simp at h; exact h0 h)⟩
  refine ⟨_, _, _, _, he, .of_k0 k6, bsp_intro (fun h => by exfalso; simp at h) (fun _ W7 hW7 => ?_)⟩
  have k7 : K0 w6 W7 := hW7.kk rfl
  have kw7 := kw6.trans k7
  have hb7 := hW7.cells 0 rfl
  have ars := ars_of h0 sm5.sz
  obtain ⟨hst1, hst2⟩ := refp_stays (l := L) (now := now) (budget := budget) l5.length (l5.map AX.pl) ars
  have hRl : R.length ≤ 12 := by
    have h1 := congrArg List.length hplan
    rw [List.length_map] at h1
    rw [List.length_map] at hst2
    omega
  refine ⟨fun wx => K0 W7 wx, .refl _ _, now, fun wx kx => cell_at (kx.blk hb7 (fun h => h)) rfl, budget, fun wx kx => cell_at (kx.blk hb7 (fun h => h)) rfl, ?_⟩
  have k57 : K0 w5 W7 := k6.trans k7
  refine ⟨(eafter_any l5 p5 c5 R p6 c6 W7 (hA5.k0 k57) (fun x hx => (hX5 x hx).k0 k57) ((RowA.own ho6 whyC_length (by decide)).k0 k7) (by omega) (by omega) (fun x hx => (sm5.sz x hx).id) hRb (fun x hx => by have := sm5.gh x hx; omega)).mono fun e w8 ⟨T, p8, c8, he, hTc, ho8, hT, k8⟩ => ⟨_, _, _, he, k8, ?_⟩⟩
  have kw8 := kw7.trans k8
  have smT := (sm5.sub (List.filter_sublist (p := keepB R))).core hTc
  have hsT := smT.nl
  have hTpl : T.map AX.pl = (refP L now budget l5.length (l5.map AX.pl)).2 := by rw [core_pls hTc, keep_pl hplan, hst1]
  have hend := refp_end (l := L) (now := now) (budget := budget) l5.length (l5.map AX.pl) ars (by simp)
  have hzero : planErr L (T.map AX.pl) now budget = 0 := by
    rw [hTpl, hst1]
    exact planErr_sub h0 List.filter_sublist
  refine ⟨(eplan_any L p4 c4 T p8 c8 now budget w8 (hR4.k0 (((k5.trans k57).trans k8))) (RowA.own ho8 axC_length (by decide)) (fun x hx => (hT x hx).r) smT.sz (by omega)).mono fun e w9 ⟨k9, he⟩ => ?_⟩
  rcases he with ⟨h1, _⟩ | ⟨_, R9, p9, c9, he, _, hplan9, _⟩
  · exact absurd hzero h1
  have hnil : R9 = [] := by
    rw [hTpl] at hplan9
    have : (refP L now budget T.length (refP L now budget l5.length (l5.map AX.pl)).2).1 = [] := by
      cases T.length with
      | zero => rfl
      | succ n => simp only [refP, hend]
    rw [this] at hplan9
    simpa using hplan9
  subst hnil
  exact ⟨_, _, _, _, he, .of_k0 (k8.trans k9), rfl, kw8.trans k9⟩

end Go.Proofs.Ytmjanmffnblcoaa

/- Chapter 42: the statement ExpiryOrder returns true, on worlds. -/
namespace Go.Proofs.Ytmjanmffnblcoaa
open Go.RowKit Go.Sort Go.Maps

theorem putL_get : ∀ (vs c : List Value) (o j : Nat), o + vs.length ≤ c.length → (putL c o vs)[j]? = if o ≤ j ∧ j < o + vs.length then vs[j - o]? else c[j]?
  | [], c, o, j, _ => by
    rw [if_neg (by simp only [List.length_nil]; omega)]; rfl
  | v :: r, c, o, j, h => by
    simp only [putL]
    rw [putL_get r (c.set o v) (o + 1) j (by simp at h ⊢; omega)]
    by_cases h1 : o + 1 ≤ j ∧ j < o + 1 + r.length
    · rw [if_pos h1, if_pos (by simp; omega), show j - o = (j - (o + 1)) + 1 by omega]; rfl
    · rw [if_neg h1, List.getElem?_set]
      by_cases h2 : o = j
      · subst h2
        have h3 : o < c.length := by rw [List.length_cons] at h; omega
        rw [if_pos rfl, if_pos h3, if_pos (by rw [List.length_cons]; omega), Nat.sub_self]
        rfl
      · rw [if_neg h2, if_neg (by rw [List.length_cons]; omega)]
/-- An element of an own row is written. -/
theorem own_set {α : Type} {f : α → List Value} {L : Nat} {w w1 : World} {base n c g k : Nat} {e : TypeId} {l : List α} {y : α} (h : w.ownsRow base e L (.slice (some ⟨g, 0, none⟩) n c) n (l.flatMap f)) (hn : n = l.length) (hl : ∀ y, (f y).length = L) (h0 : 0 < L) (hk : k < l.length) (hp : PutB w g (0 + k * L) (f y) w1) :
    w1.ownsRow base e L (.slice (some ⟨g, 0, none⟩) n c) n ((l.set k y).flatMap f) := by
  subst hn
  have hlen := h.1
  rcases h.2 with ⟨hv, _⟩ | ⟨g', cap, cur, hv, hb, hg, h4, h5, h6, h7⟩
  · simp at hv
  simp only [Value.slice.injEq, true_and, Option.some.injEq, Addr.mk.injEq, and_true] at hv
  obtain ⟨rfl, rfl⟩ := hv
  have hm : (k + 1) * L ≤ l.length * L := Nat.mul_le_mul_right _ hk
  have hm2 : l.length * L ≤ c * L := Nat.mul_le_mul_right _ h4
  rw [Nat.succ_mul] at hm
  have hfl : ((l.set k y).flatMap f).length = l.length * L := by rw [len_flat f L _ (fun z _ => hl z), List.length_set]
  refine ⟨hfl, .inr ⟨g, c, _, rfl, hb, hp.block hg, h4, h5, by simp [putL_len, h6], ?_⟩⟩
  show (putL cur.toList (0 + k * L) (f y)).take (l.length * L) = _
  apply List.ext_getElem?
  intro j
  rw [List.getElem?_take]
  rcases Nat.lt_or_ge j (l.length * L) with hj | hj
  · rw [if_pos hj, putL_get _ _ _ _ (by rw [hl y]; simp [h6]; omega), hl y]
    have hdiv : j / L < l.length := Nat.div_lt_of_lt_mul (by rw [Nat.mul_comm]; exact hj)
    have hmod : j % L < L := Nat.mod_lt _ h0
    have hj2 : j / L * L + j % L = j := by rw [Nat.mul_comm]; exact Nat.div_add_mod j L
    by_cases hin : 0 + k * L ≤ j ∧ j < 0 + k * L + L
    · have hk1 : j / L = k := by
        have h1 : k ≤ j / L := (Nat.le_div_iff_mul_le h0).2 (by omega)
        have h2 : j / L < k + 1 := (Nat.div_lt_iff_lt_mul h0).2 (by rw [Nat.succ_mul]; omega)
        omega
      rw [if_pos hin]
      have := flat_get f L (l.set k y) k y (j % L) (fun z _ => hl z) (by rw [List.getElem?_set]; simp [hk]) hmod
      rw [show k * L + j % L = j by rw [← hk1]; exact hj2] at this
      rw [this]
      congr 1
      rw [hk1] at hj2
      omega
    · rw [if_neg hin]
      have hne : ¬ k = j / L := fun e => hin (by rw [e]; omega)
      obtain ⟨z, hz⟩ : ∃ z, l[j / L]? = some z := ⟨_, List.getElem?_eq_getElem hdiv⟩
      have h1 := flat_get f L (l.set k y) (j / L) z (j % L) (fun z _ => hl z) (by rw [List.getElem?_set, if_neg hne]; exact hz) hmod
      have h2 := flat_get f L l (j / L) z (j % L) (fun z _ => hl z) hz hmod
      rw [hj2] at h1 h2
      rw [h1, ← h2, ← h7, List.getElem?_take, if_pos hj]
  · rw [if_neg (by omega), List.getElem?_eq_none (by omega)]
theorem own_wr {w : World} {base n c L k : Nat} {p : Option Addr} {e : TypeId} {xs : List Value} (h : w.ownsRow base e L (.slice p n c) n xs) (hk : k < n) : ∃ g, p = some ⟨g, 0, none⟩ ∧ WrL w g (0 + k * L) L := by
  rcases h.2 with ⟨_, h0⟩ | ⟨g, cap, cur, hv, hb, hg, h4, h5, h6, h7⟩
  · omega
  simp only [Value.slice.injEq, true_and] at hv
  obtain ⟨rfl, rfl⟩ := hv
  have hm : (k + 1) * L ≤ n * L := Nat.mul_le_mul_right _ hk
  have hm2 : n * L ≤ c * L := Nat.mul_le_mul_right _ h4
  rw [Nat.succ_mul] at hm
  exact ⟨g, rfl, WrL_block hg (by omega)⟩
theorem set_perm {α : Type} : ∀ (l : List α) (i : Nat) (x y : α), l[i]? = some x → (y :: l).Perm (x :: l.set i y)
  | [], i, x, y, h => by simp at h
  | a :: r, 0, x, y, h => by
    simp at h; subst h
    exact .swap _ _ _
  | a :: r, i + 1, x, y, h => by
    have ih := set_perm r i x y (by simpa using h)
    exact (List.Perm.swap a y r).trans ((ih.cons a).trans (.swap _ _ _))
theorem swap_perm {α : Type} : ∀ (l : List α) (i j : Nat) (x y : α), l[i]? = some x → l[j]? = some y → ((l.set i y).set j x).Perm l
  | [], i, j, x, y, h, _ => by simp at h
  | a :: r, 0, 0, x, y, h, h' => by
    simp at h h'; subst h; subst h'
    exact .refl _
  | a :: r, 0, j + 1, x, y, h, h' => by
    simp at h; subst h
    exact (set_perm r j y a (by simpa using h')).symm
  | a :: r, i + 1, 0, x, y, h, h' => by
    simp at h'; subst h'
    exact (set_perm r i x a (by simpa using h)).symm
  | a :: r, i + 1, j + 1, x, y, h, h' => (swap_perm r i j x y (by simpa using h) (by simpa using h')).cons a
theorem refp_kinds {L : List Rl} {now budget : Int} : ∀ (n : Nat) (h : List Ar), ∀ r ∈ (refP L now budget n h).1, r.2 = 1 ∨ r.2 = 2 ∨ r.2 = 3
  | 0, h, r, hr => by simp [refP] at hr
  | n + 1, h, r, hr => by
    simp only [refP] at hr
    cases hk : pickR L now budget h with
    | none => rw [hk] at hr; simp at hr
    | some ak =>
      obtain ⟨a, k⟩ := ak
      rw [hk] at hr
      simp only [List.mem_cons] at hr
      rcases hr with rfl | hr
      · exact (pickR_mem hk).2.2
      · exact refp_kinds n _ r hr
def stC (v : Int) : List Value := [.int .u8 v]
set_option maxRecDepth 100000 in
set_option maxHeartbeats 4000000 in
theorem lorder_any (L : List Rl) (p : Option Addr) (c : Nat) (l : List AX) (q : Option Addr) (d : Nat) (now budget : Int) (p3 : Option Addr) (st : List Int) (c3 : Nat) (w : World) (hR : RowA rlC 3 w p L) (hL : L.length ≤ 4611686018427387904) (hA : RowA axC 39 w q l) (hX : ∀ x ∈ l, AXR w x ∧ ArRd x) (hl : l.length ≤ 4611686018427387904) (hS : RowA stC 1 w p3 st) (hSb : ∀ v ∈ st, 0 ≤ v ∧ v ≤ 255) :
    Calls Try.prog 3 #[.agg #[.slice p L.length c, .slice q l.length d, .int .i64 now, .int .i64 budget], .slice p3 st.length c3] w fun e w' => e = .returned (.bool true) ∧ K0 w w' := by
  refine vc_lorder p L.length c q l.length d now budget p3 st.length c3 w _ ?_
  intro n1 W hW
  have kW : K0 w W := hW.kk rfl
  refine ⟨(known_any W).mono fun e w1 ⟨he, k1⟩ => ⟨_, he, .of_k0 k1, ?_⟩⟩
  have hb1 := k1.blk (hW.cells 0 rfl) (fun h => h)
  have kw1 : K0 w w1 := kW.trans k1
  refine ⟨p, L.length, c, gimp_intro fun _ => cell_at hb1 rfl, q, l.length, d, gimp_intro fun _ => cell_at hb1 rfl, bsp_intro (fun _ => ?_) (fun h => absurd h (by decide))⟩
  refine ⟨(lsmall_any L p c l q d w1 (hR.k0 kw1) (hA.k0 kw1) (fun x hx => ((hX x hx).1.k0 kw1).gs) hL hl).mono fun e w2 ⟨he, k2⟩ => ⟨_, he, .of_k0 k2, ?_⟩⟩
  have kw2 : K0 w w2 := kw1.trans k2
  refine bsp_intro (fun _ => ⟨(known_any w2).mono fun e w4 ⟨he, k4⟩ => ⟨_, he, .of_k0 k4, rfl, kw2.trans k4⟩⟩) (fun hs W3 hW3 => ?_)
  simp only [Bool.false_or, Bool.or_eq_false_iff, Bool.not_eq_false', decide_eq_false_iff_not] at hs
  obtain ⟨hs, hst40⟩ := hs
  have hst40 : st.length ≤ 40 := by omega
  have sm := Sml.of (L := L) (l := l) hs (fun x hx => (hX x hx).2)
  have hsL := sm.nL
  have hsl := sm.nl
  have k3 : K0 w2 W3 := hW3.kk rfl
  have kw3 : K0 w W3 := kw2.trans k3
  have hb3 := hW3.cells 0 rfl
  refine ⟨fun wx => K0 W3 wx, .refl _ _, p, L.length, c, fun wx kx => cell_at (kx.blk hb3 (fun h => h)) rfl, q, l.length, d, fun wx kx => cell_at (kx.blk hb3 (fun h => h)) rfl, ?_⟩
  refine ⟨(lrules_any L p c W3 (hR.k0 kw3) (by omega)).mono fun e w4 ⟨p4, c4, he, ho4, k4⟩ => ⟨_, _, _, he, k4, ?_⟩⟩
  have kw4 := kw3.trans k4
  refine ⟨(larticles_any l q d w4 (hA.k0 kw4) (fun x hx => (hX x hx).1.k0 kw4) (fun x hx => by have := (sm.gh x hx).2; omega) (by omega)).mono fun e w5 ⟨l5, p5, c5, he, hcore, ho5, hO, k5⟩ => ⟨_, _, _, he, .of_k0 (k4.trans k5), ?_⟩⟩
  have kw5 := kw4.trans k5
  have sm5 := sm.core hcore
  have hs5 := sm5.nl
  have hR4 : RowA rlC 3 w4 p4 L := RowA.own ho4 rlC_length (by decide)
  have hA5 : RowA axC 39 w5 p5 l5 := RowA.own ho5 axC_length (by decide)
  have hX5 : ∀ x ∈ l5, AXR w5 x := fun x hx => (hO x hx).r k5
  refine ⟨(eplan_any L p4 c4 l5 p5 c5 now budget w5 (hR4.k0 k5) hA5 hX5 sm5.sz (by omega)).mono fun e w6 ⟨k6, he⟩ => ?_⟩
  have kw6 := kw5.trans k6
  rcases he with ⟨h0, he⟩ | ⟨h0, R, p6, c6, he, ho6, hplan, hRb⟩
  · exact ⟨_, _, _, _, he, .of_k0 k6, bsp_intro (fun _ => ⟨rfl, kw6⟩) (fun h => by exfalso; simp at h; exact h0 h)⟩
  have ars := ars_of h0 sm5.sz
  obtain ⟨hst1, hst2⟩ := refp_stays (l := L) (now := now) (budget := budget) l5.length (l5.map AX.pl) ars
  have hRe : R.length = (refP L now budget l5.length (l5.map AX.pl)).1.length := by
    have h1 := congrArg List.length hplan
    rwa [List.length_map] at h1
  rw [List.length_map] at hst2
  refine ⟨_, _, _, _, he, .of_k0 k6, bsp_intro (fun h => by exfalso; simp at h) (fun _ => ?_)⟩
  have b6 := hW3.cells 0 rfl
  -- the articles change their places
  refine ⟨fun vs w' => ∃ (i : Nat) (a : List AX), vs = [.int .i64 (i : Int)] ∧ i ≤ st.length ∧ a.Perm l5 ∧ w'.ownsRow w4.heap.size 42 39 (.slice p5 l5.length c5) l5.length (a.flatMap axC) ∧ (∀ x ∈ l5, AXO w4 w' x) ∧ w'.ownsRow w5.heap.size 44 33 (.slice p6 R.length c6) R.length (R.flatMap whyC) ∧ w'.ownsRow W3.heap.size 68 3 (.slice p4 L.length c4) L.length (L.flatMap rlC) ∧ K0 w4 w',
    fun vs _ => (match vs with | .int _ a :: _ => st.length - a.toNat | _ => 0), ⟨0, l5, rfl, by omega, .refl _, owns_kp ho5 k6 (fun _ _ h => h), fun x hx => (hO x hx).k k6, ho6, owns_kp ho4 (k5.trans k6) (fun _ _ h => h), k5.trans k6⟩, ?_⟩
  rintro i' w7 ⟨i, a, hv, hi, hperm, ho7, hO7, hr7, hu7, k47⟩ hL7
  simp only [List.cons.injEq, Value.int.injEq, true_and, and_true] at hv
  subst hv
  have halen : a.length = l5.length := hperm.length_eq
  refine bsp_intro (fun hlt => ?_) (fun _ => ?_)
  · simp only [Bool.and_eq_true, decide_eq_true_eq] at hlt
    obtain ⟨hlt, hpos⟩ := hlt
    have hlt : i < st.length := by omega
    have hpos : 0 < l5.length := by omega
    obtain ⟨v, b, o, hv, hp3, hat⟩ := (hS.k0 (kw4.trans k47)).get hlt
    have hvb := hSb v (List.mem_of_getElem? hv)
    refine ⟨⟨rfl, by omega⟩, nn_eq hp3 ⟨by omega, v, fun W8 hW8 => by rw [Int.toNat_natCast]; simpa using (hat.k0 (hW8.kk rfl)).cell (j := 0) rfl, ⟨rfl, by omega⟩, fun W8 hW8 => ?_⟩⟩
    have k8 : K0 w7 W8 := hW8.kk rfl
    have ew : IntKind.i64.wrap v = v := wr64 (by omega) (by omega)
    rw [ew]
    -- the two places
    obtain ⟨s, rfl⟩ : ∃ s : Nat, v = (s : Int) := ⟨v.toNat, by omega⟩
    have em : ∀ x : Nat, Int.tmod (x : Int) (l5.length : Int) = ((x % l5.length : Nat) : Int) := fun x => (Int.ofNat_tmod x l5.length).symm
    rw [em s, em i]
    have hks : s % l5.length < l5.length := Nat.mod_lt _ hpos
    have hki : i % l5.length < l5.length := Nat.mod_lt _ hpos
    generalize s % l5.length = ks at hks ⊢
    generalize i % l5.length = ki at hki ⊢
    rw [Int.toNat_natCast, Int.toNat_natCast]
    have ho8 := owns_kp ho7 k8 (fun _ _ h => h)
    obtain ⟨g, hg5, hwr1⟩ := own_wr ho8 hki
    have hrow8 : RowA axC 39 W8 p5 a := RowA.own ho8 axC_length (by decide)
    obtain ⟨x, hx⟩ : ∃ x, a[ks]? = some x := ⟨_, List.getElem?_eq_getElem (by omega)⟩
    obtain ⟨y, hy⟩ : ∃ y, a[ki]? = some y := ⟨_, List.getElem?_eq_getElem (by omega)⟩
    have atg : ∀ {k : Nat} {z : AX}, a[k]? = some z → AtL W8 g (0 + k * 39) (axC z) := fun {k z} hz => by
      obtain ⟨b9, hp9, hat9⟩ := own_at axC ho8 (fun _ _ => rfl) (by decide) hz
      rw [hg5] at hp9
      simp only [Option.some.injEq, Addr.mk.injEq, and_true] at hp9
      subst hp9
      exact hat9
    obtain ⟨gc, hgb⟩ := own_type ho8 (k := g) (by rw [hg5]; rfl)
    have g4 : w4.heap.size ≤ g := own_ge ho8 (by rw [hg5]; rfl)
    have hn1 := k8.blk (hL7.cells 0 rfl) (fun h => h)
    have hn1g : n1 ≠ g := blk_ne hn1 hgb rfl
    refine ⟨fun wx => K0 W8 wx, .refl _ _, nn_eq hg5 ⟨by omega, x.id, x.dt, x.ar, x.gp, x.gs.length, x.gc, x.by_, x.ct, x.hp, x.hs.length, x.hc, x.wd, fun wx kx => (atg hx).k0 kx, nn_eq hg5 ⟨by omega, y.id, y.dt, y.ar, y.gp, y.gs.length, y.gc, y.by_, y.ct, y.hp, y.hs.length, y.hc, y.wd, fun wx kx => (atg hy).k0 kx, nn_eq hg5 ⟨by omega, hwr1, fun w9 hp9 => ?_⟩⟩⟩⟩
    have ho8g := ho8
    rw [hg5] at ho8g
    have ho9g := own_set (f := axC) (y := x) ho8g halen.symm axC_length (by decide) (by omega) hp9
    obtain ⟨g2, hg2, hwr2⟩ := own_wr ho9g hks
    simp only [Option.some.injEq, Addr.mk.injEq, and_true] at hg2
    subst hg2
    refine nn_eq hg5 ⟨by omega, hwr2, fun w10 hp10 => ?_⟩
    have ho10g := own_set (f := axC) (y := y) ho9g (by rw [List.length_set]; exact halen.symm) axC_length (by decide) (by rw [List.length_set]; omega) hp10
    have kp : Kp (· = g) W8 w10 := hp9.kp.trans hp10.kp
    have notg : ∀ {base n c size : Nat} {p : Option Addr} {e : TypeId} {xs : List Value}, W8.ownsRow base e size (.slice p n c) n xs → (42 == e) = false → w10.ownsRow base e size (.slice p n c) n xs := fun h he => owns_kp h kp (fun k hk e => by subst e; exact own_not h hgb he hk)
    refine ⟨.of_kp kp (fun m hm e => by simp at hm; subst hm; exact hn1g e), ⟨i + 1, (a.set ki x).set ks y, by rw [inc64 (by omega)], hlt, (swap_perm a ki ks y x hy hx).trans hperm, by rw [hg5]; exact ho10g, fun z hz => ?_, notg (owns_kp hr7 k8 (fun _ _ h => h)) rfl, notg (owns_kp hu7 k8 (fun _ _ h => h)) rfl, Kp.fresh (k47.trans k8) kp (fun j hj e => by omega)⟩, by rw [inc64 (by omega)]; simp only [Int.toNat_natCast]; omega⟩
    have hz8 := (hO7 z hz).k k8
    exact ⟨hz8.gs, notg hz8.hs rfl⟩
  · -- planned again
    have hpp := hperm.map AX.pl
    have h0' := planErr_perm h0 hpp.symm
    have sma : ∀ x ∈ a, ArSz x := fun x hx => sm5.sz x (hperm.mem_iff.1 hx)
    have ho7a := ho7
    rw [← halen] at ho7a ⊢
    refine ⟨(eplan_any L p4 c4 a p5 c5 now budget w7 (RowA.own hu7 rlC_length (by decide)) (RowA.own ho7a axC_length (by decide)) (fun x hx => (hO7 x (hperm.mem_iff.1 hx)).r k47) sma (by omega)).mono fun e w8 ⟨k8, he⟩ => ?_⟩
    rcases he with ⟨h1, _⟩ | ⟨_, R', p8, c8, he, ho8, hplan', hRb'⟩
    · exact absurd h0' h1
    have hRR : R'.map whyS = R.map whyS := by
      rw [hplan', hplan, halen]
      exact (ref_perm l5.length (l5.map AX.pl) (a.map AX.pl) hpp.symm ars).symm
    have hRlen : R'.length = R.length := by simpa using congrArg List.length hRR
    refine ⟨_, _, _, _, he, .of_k0 k8, bsp_intro (fun h => by exfalso; simp [hRlen] at h) (fun _ => ?_)⟩
    have hrow : RowA whyC 33 w8 p6 R := (RowA.own hr7 whyC_length (by decide)).k0 k8
    have hrow' : RowA whyC 33 w8 p8 R' := RowA.own ho8 whyC_length (by decide)
    refine count1 R.length (by omega) (fun k wx => K0 w8 wx) (.refl _ _) ?_
    intro I m j w9 hj k9 next hL9
    refine bsp_intro (fun hlt => ?_) (fun _ => ⟨rfl, ((kw4.trans k47).trans k8).trans k9⟩)
    have hlt : j < R.length := by simp at hlt; omega
    obtain ⟨r, b, o, hr, hp, hat⟩ := (hrow.k0 k9).get hlt
    obtain ⟨s, b', o', hs', hp', hat'⟩ := (hrow'.k0 k9).get (k := j) (by omega)
    have hrl := List.mem_of_getElem? hr
    have hrs : whyS s = whyS r := by
      have h1 : (R'.map whyS)[j]? = some (whyS s) := by rw [List.getElem?_map, hs']; rfl
      rw [hRR, List.getElem?_map, hr] at h1
      simpa using h1.symm
    have hid : idI s.1 = idI r.1 := congrArg (·.1) hrs
    have hk : s.2 = r.2 := congrArg (·.2) hrs
    have hcc : whyC s = whyC r := by
      unfold whyC whyL
      rw [arrI_idI, arrI_idI, hid, hk]
    have hkind : r.2 = 1 ∨ r.2 = 2 ∨ r.2 = 3 := by
      have : whyS r ∈ R.map whyS := List.mem_map.2 ⟨r, hrl, rfl⟩
      rw [hplan] at this
      exact refp_kinds _ _ _ this
    have hE : EqP Try.prog 44 (.agg (whyC r).toArray) (.agg (whyC s).toArray) true := by
      rw [hcc]
      exact whyEq (hRb r hrl) (by omega)
    refine nn_eq hp ⟨by omega, r.1, (r.2 : Int), fun W hW => by rw [Int.toNat_natCast]; exact hat.k0 (hW.kk rfl), nn_eq hp' ⟨by omega, s.1, (s.2 : Int), fun W hW => by rw [Int.toNat_natCast]; exact hat'.k0 (hW.kk rfl), true, hE, bsp_intro (fun h => by simp at h) (fun _ W hW => next hlt W (k9.trans (hW.kk rfl)))⟩⟩

end Go.Proofs.Ytmjanmffnblcoaa

/- Chapter 42: bytes as an argument. No condition. -/
namespace Go.Proofs.Ytmjanmffnblcoaa
open Go.ChangeShapes Go.WideShapes Go.ChangeAt Go.RowKit Go.Deep
set_option maxRecDepth 100000 in
theorem openw_U8 {H : Type} {enc : TypeId × Value → H} {W : World} {base : Nat} {v : Value} (hv : Value.okWide Try.prog W .any base 26 v) (hr : Rw enc Try.prog W 26 v.cells.toList) : ∃ (p : Option Addr) (st : List Int) (c : Nat), v = .slice p st.length c ∧ RowA stC 1 W p st ∧ ∀ x ∈ st, 0 ≤ x ∧ x ≤ 255 := by
  obtain ⟨p0, n0, c0, rfl⟩ := okWide_slice Try.underlying26 hv
  have c1 : Try.prog.cellsOf 5 = 1 := by kernel_rfl
  obtain ⟨p, n, c, hcs, _, _, _, hel⟩ := hr.slice Try.underlying26 (by rw [c1]; decide)
  have hcs : [Value.slice p0 n0 c0] = [.slice p n c] := hcs
  simp only [List.cons.injEq, and_true] at hcs
  rw [c1] at hel
  have key : ∀ i, i < n → ∃ y : Int, (∃ b o, p = some ⟨b, o, none⟩ ∧ AtL W b (o + i * 1) (stC y)) ∧ 0 ≤ y ∧ y ≤ 255 := fun i hi => by
    obtain ⟨b, o, cs', hp, hl, hc, hrw⟩ := hel i hi
    obtain ⟨y, rfl, hy⟩ := hrw.int8 Try.underlying5
    exact ⟨y, ⟨b, o, hp, ⟨At_of _ _ fun j v hv => hc j v hv⟩⟩, hy⟩
  obtain ⟨st, hlen, hL⟩ := list_of key
  refine ⟨p, st, c, by rw [hlen]; exact hcs, fun k y hy => (hL k y hy).1, fun x hx => ?_⟩
  obtain ⟨j, hj, e⟩ := List.getElem_of_mem hx
  exact (hL j x (by rw [List.getElem?_eq_getElem hj, e])).2
end Go.Proofs.Ytmjanmffnblcoaa
