/- The formulas of functions by the symbolic evaluator, and that each gives the call's contract. Written by a program (gen.py). No condition. -/
import Derived.Test.YtmjanmffnblcoaaGreatDoorProg
import Derived.Test.YtmjanmffnblcoaaGreatDoorZ02
import Derived.Test.YtmjanmffnblcoaaGreatDoorZ08
import Derived.Test.YtmjanmffnblcoaaGreatDoorZ04
import Derived.KernelRfl
import Derived.Test.YtmjanmffnblcoaaGreatDoorZ09
namespace Go.Proofs.YtmjanmffnblcoaaGreatDoor
set_option maxRecDepth 100000
set_option linter.unusedVariables false

def VC_echeckA (p : Option Addr) (n : Nat) (c : Nat) (w : World) (R : Ending → World → Prop) : Prop :=
 ∀ (n_1 : Nat) (w1 : World),
 NewB w (Obj.map #[] 0) n_1 w1 →
 KeptL [] w w1 ∧
 ∃ (I : List Value → World → Prop),
 ∃ (m : List Value → World → Nat),
 I [Value.int IntKind.i64 0] w1 ∧
 ∀ (x : Int) (w' : World),
 I [Value.int IntKind.i64 x] w' →
 bsp (decide (x < (↑n : Int)))
 (nn true p fun (b o : Nat) =>
 (0 ≤ x ∧ x < (↑n : Int)) ∧
 ∃ (f : Nat → Int),
 ∃ (x_1 : Int),
 ∃ (x_2 : Int),
 ∃ (p : Option Addr),
 ∃ (n : Nat),
 ∃ (c : Nat),
 ∃ (x_3 : Int),
 ∃ (x_4 : Int),
 ∃ (p_1 : Option Addr),
 ∃ (n_2 : Nat),
 ∃ (c_1 : Nat),
 ∃ (x_5 : Bool),
 AtL w' b (o + x.toNat * 39)
 (arrI IntKind.u8 f 32 0 ++ [Value.int IntKind.i64 x_1,
 Value.int IntKind.i64 x_2, Value.slice p n c, Value.int IntKind.i64 x_3,
 Value.int IntKind.i64 x_4, Value.slice p_1 n_2 c_1, Value.bool x_5]) ∧
 ∀ (n_3 : Nat),
 ∃ (x_6 : Int),
 gimp (!!minB x_1)
 (∀ (W : World),
 Loc w.heap.size
 [Blk.mk n_3 46
 (arrI IntKind.u8 f 32 0 ++ [Value.int IntKind.i64 x_1,
 Value.int IntKind.i64 x_2, Value.slice p n c, Value.int IntKind.i64 x_3,
 Value.int IntKind.i64 x_4, Value.slice p_1 n_2 c_1, Value.bool x_5])
 (wrM 2)]
 w' W →
 W.cell? (Addr.mk n_3 (0 + 33) none) = some (Value.int IntKind.i64 x_6)) ∧
 ∃ (x_7 : Int),
 gimp (!(!minB x_1 || !minB x_6))
 (∀ (W : World),
 Loc w.heap.size
 [Blk.mk n_3 46
 (arrI IntKind.u8 f 32 0 ++ [Value.int IntKind.i64 x_1, Value.int IntKind.i64 x_2,
 Value.slice p n c, Value.int IntKind.i64 x_3, Value.int IntKind.i64 x_4,
 Value.slice p_1 n_2 c_1, Value.bool x_5])
 (wrM 2)]
 w' W →
 W.cell? (Addr.mk n_3 (0 + 35) none) = some (Value.int IntKind.i64 x_7)) ∧
 ∃ (x_8 : Int),
 gimp (!(!minB x_1 || !minB x_6 || decide (x_7 < 0)))
 (∀ (W : World),
 Loc w.heap.size
 [Blk.mk n_3 46
 (arrI IntKind.u8 f 32 0 ++ [Value.int IntKind.i64 x_1, Value.int IntKind.i64 x_2, Value.slice p n c,
 Value.int IntKind.i64 x_3, Value.int IntKind.i64 x_4, Value.slice p_1 n_2 c_1,
 Value.bool x_5])
 (wrM 2)]
 w' W →
 W.cell? (Addr.mk n_3 (0 + 35) none) = some (Value.int IntKind.i64 x_8)) ∧
 ∃ (x_9 : Int),
 gimp (!(!minB x_1 || !minB x_6 || decide (x_7 < 0) || decide (x_8 > 1099511627776)))
 (∀ (W : World),
 Loc w.heap.size
 [Blk.mk n_3 46
 (arrI IntKind.u8 f 32 0 ++ [Value.int IntKind.i64 x_1, Value.int IntKind.i64 x_2, Value.slice p n c,
 Value.int IntKind.i64 x_3, Value.int IntKind.i64 x_4, Value.slice p_1 n_2 c_1,
 Value.bool x_5])
 (wrM 2)]
 w' W →
 W.cell? (Addr.mk n_3 (0 + 36) none) = some (Value.int IntKind.i64 x_9)) ∧
 ∃ (x_10 : Int),
 gimp
 (!(!minB x_1 || !minB x_6 || decide (x_7 < 0) || decide (x_8 > 1099511627776) ||
 decide (x_9 < 0)))
 (∀ (W : World),
 Loc w.heap.size
 [Blk.mk n_3 46
 (arrI IntKind.u8 f 32 0 ++ [Value.int IntKind.i64 x_1, Value.int IntKind.i64 x_2, Value.slice p n c,
 Value.int IntKind.i64 x_3, Value.int IntKind.i64 x_4, Value.slice p_1 n_2 c_1,
 Value.bool x_5])
 (wrM 2)]
 w' W →
 W.cell? (Addr.mk n_3 (0 + 36) none) = some (Value.int IntKind.i64 x_10)) ∧
 bsp
 (!minB x_1 || !minB x_6 || decide (x_7 < 0) || decide (x_8 > 1099511627776) ||
 decide (x_9 < 0) ||
 decide (x_10 > 5))
 (∀ (W : World),
 Loc w.heap.size
 [Blk.mk n_3 46
 (arrI IntKind.u8 f 32 0 ++ [Value.int IntKind.i64 x_1, Value.int IntKind.i64 x_2, Value.slice p n c,
 Value.int IntKind.i64 x_3, Value.int IntKind.i64 x_4, Value.slice p_1 n_2 c_1,
 Value.bool x_5])
 (wrM 2)]
 w' W →
 R (Ending.returned (Value.int IntKind.i64 2)) W)
 (∃ (x_11 : Bool),
 (∀ (W : World),
 Loc w.heap.size
 [Blk.mk n_3 46
 (arrI IntKind.u8 f 32 0 ++ [Value.int IntKind.i64 x_1, Value.int IntKind.i64 x_2, Value.slice p n c,
 Value.int IntKind.i64 x_3, Value.int IntKind.i64 x_4,
 Value.slice p_1 n_2 c_1, Value.bool x_5])
 (wrM 2)]
 w' W →
 LookP Tryz.prog 97 (Value.map (some n_1))
 (Value.agg
 (arrI IntKind.u8 f 32 0).toArray)
 false (Value.bool x_11) W) ∧
 bsp x_11
 (∀ (W : World),
 Loc w.heap.size
 [Blk.mk n_3 46
 (arrI IntKind.u8 f 32 0 ++ [Value.int IntKind.i64 x_1, Value.int IntKind.i64 x_2, Value.slice p n c,
 Value.int IntKind.i64 x_3, Value.int IntKind.i64 x_4,
 Value.slice p_1 n_2 c_1, Value.bool x_5])
 (wrM 2)]
 w' W →
 R (Ending.returned (Value.int IntKind.i64 7)) W)
 (∀ (W : World),
 Loc w.heap.size
 [Blk.mk n_3 46
 (arrI IntKind.u8 f 32 0 ++ [Value.int IntKind.i64 x_1, Value.int IntKind.i64 x_2, Value.slice p n c,
 Value.int IntKind.i64 x_3, Value.int IntKind.i64 x_4,
 Value.slice p_1 n_2 c_1, Value.bool x_5])
 (wrM 2)]
 w' W →
 ∃ (w1 : World),
 UpdP Tryz.prog 97 (Value.map (some n_1))
 (Value.agg
 (arrI IntKind.u8 f 32 0).toArray)
 (Value.bool true) W w1 ∧
 KeptL [n_3] W w1 ∧
 I [Value.int IntKind.i64 (IntKind.i64.wrap (x + 1))] w1 ∧
 m [Value.int IntKind.i64 (IntKind.i64.wrap (x + 1))] w1 <
 m [Value.int IntKind.i64 x] w')))
 (R (Ending.returned (Value.int IntKind.i64 0)) w')
theorem vc_echeckA (p : Option Addr) (n : Nat) (c : Nat) (w : World) (R : Ending → World → Prop) (h : VC_echeckA p n c w R) : Calls Tryz.prog 27 ([Value.slice
    p n c] : List Value).toArray w R := by
  have e : execR2 { P := Tryz.prog, loops := [(3, [(9, Ck.int IntKind.i64)])], pur := pur2, tails := [], joins := [], boxes := [] } Tryz.f27.results.toList R (Tryz.f27.body.getD .skip) (initF [Value.slice
    p n c] (Tryz.f27.ntmps - ([Value.slice p n c] : List Value).length)) w = VC_echeckA p n c w R := by kernel_rfl
  have hb : Tryz.f27.body = some (Tryz.f27.body.getD .skip) := by kernel_rfl
  exact calls_of_exec2' (P := Tryz.prog) (fn := Tryz.f27) (c := Tryz.f27.body.getD .skip) (args := [Value.slice p n
    c]) (w := w) (R := R) pur2_ok Tryz.func27 hb e h

def VC_enewP (p : Option Addr) (n : Nat) (c : Nat) (q : Option Addr) (k : Nat) (d : Nat) (p3 : Option Addr) (n3 : Nat) (c3 : Nat) (now : Int) (budget : Int) (w : World) (R : Ending → World → Prop) : Prop :=
 ∀ (n_1 : Nat) (W : World),
 Loc w.heap.size [Blk.mk n_1 74 [Value.slice p n c, Value.slice q k d] 2] w W →
 ∀ (n_2 : Nat) (w1 : World),
 NewB W (Obj.map #[] 0) n_2 w1 →
 KeptL [n_1] W w1 ∧
 ∀ (n_3 : Nat) (W : World),
 Loc w.heap.size
 [Blk.mk n_3 100
 [Value.slice none 0 0, Value.map (some n_2), Value.int IntKind.i64 0, Value.int IntKind.i64 budget] 2,
 Blk.mk n_1 74 [Value.slice p n c, Value.slice q k d] 0]
 w1 W →
 ∃ (I : List Value → World → Prop),
 ∃ (m : List Value → World → Nat),
 I [Value.int IntKind.i64 0] W ∧
 ∀ (x : Int) (w' : World),
 I [Value.int IntKind.i64 x] w' →
 Loc w.heap.size [Blk.mk n_1 74 [Value.slice p n c, Value.slice q k d] 0] w' w' →
 bsp (decide (x < (↑n3 : Int)))
 (nn true p3 fun (b o : Nat) =>
 (0 ≤ x ∧ x < (↑n3 : Int)) ∧
 ∃ (f : Nat → Int),
 ∃ (x_1 : Int),
 ∃ (x_2 : Int),
 ∃ (p_1 : Option Addr),
 ∃ (n_4 : Nat),
 ∃ (c_1 : Nat),
 ∃ (x_3 : Int),
 ∃ (x_4 : Int),
 ∃ (p_2 : Option Addr),
 ∃ (n_5 : Nat),
 ∃ (c_2 : Nat),
 ∃ (x_5 : Bool),
 AtL w' b (o + x.toNat * 39)
 (arrI IntKind.u8 f 32 0 ++ [Value.int IntKind.i64 x_1,
 Value.int IntKind.i64 x_2, Value.slice p_1 n_4 c_1, Value.int IntKind.i64 x_3,
 Value.int IntKind.i64 x_4, Value.slice p_2 n_5 c_2, Value.bool x_5]) ∧
 ∀ (n_6 : Nat) (W : World),
 Loc w.heap.size
 [Blk.mk n_1 74 [Value.slice p n c, Value.slice q k d] 0,
 Blk.mk n_6 46
 (arrI IntKind.u8 f 32 0 ++ [Value.int IntKind.i64 x_1,
 Value.int IntKind.i64 x_2, Value.slice p_1 n_4 c_1, Value.int IntKind.i64 x_3,
 Value.int IntKind.i64 x_4, Value.slice p_2 n_5 c_2, Value.bool x_5])
 (wrM 2)]
 w' W →
 CallsS Tryz.prog 30
 #[Value.agg #[Value.slice p n c, Value.slice q k d],
 Value.agg
 (arrI IntKind.u8 f 32 0 ++ [Value.int IntKind.i64 x_1, Value.int IntKind.i64 x_2,
 Value.slice p_1 n_4 c_1, Value.int IntKind.i64 x_3, Value.int IntKind.i64 x_4,
 Value.slice p_2 n_5 c_2, Value.bool x_5]).toArray]
 W fun (e : Ending) (w'_1 : World) =>
 ∃ (x_6 : Int),
 ∃ (x_7 : Int),
 e =
 Ending.returned
 (Value.tuple #[Value.int IntKind.i64 x_6, Value.int IntKind.i64 x_7]) ∧
 KeptL [n_1, n_6] W w'_1 ∧
 ∃ (J : List Value → World → Prop),
 (∀ (W : World),
 Loc w.heap.size
 [Blk.mk n_1 74 [Value.slice p n c, Value.slice q k d] 0,
 Blk.mk n_6 46
 (arrI IntKind.u8 f 32 0 ++ [Value.int IntKind.i64 x_1, Value.int IntKind.i64 x_2,
 Value.slice p_1 n_4 c_1, Value.int IntKind.i64 x_3,
 Value.int IntKind.i64 x_4, Value.slice p_2 n_5 c_2, Value.bool x_5])
 0]
 w'_1 W →
 ∃ (S : World → Prop),
 S W ∧
 ∃ (p : Option Addr),
 ∃ (n : Nat),
 ∃ (c : Nat),
 (∀ (w' : World),
 S w' → w'.cell? (Addr.mk n_3 0 none) = some (Value.slice p n c)) ∧
 ∃ (f : Nat → Int),
 ∃ (x : Int),
 ∃ (x_8 : Int),
 ∃ (p_3 : Option Addr),
 ∃ (n_7 : Nat),
 ∃ (c_3 : Nat),
 ∃ (x_9 : Int),
 ∃ (x_10 : Int),
 ∃ (p_4 : Option Addr),
 ∃ (n_8 : Nat),
 ∃ (c_4 : Nat),
 ∃ (x_11 : Bool),
 (∀ (w' : World),
 S w' →
 AtL w' n_6 0
 (arrI IntKind.u8 f 32 0 ++ [Value.int IntKind.i64 x, Value.int IntKind.i64 x_8,
 Value.slice p_3 n_7 c_3, Value.int IntKind.i64 x_9,
 Value.int IntKind.i64 x_10, Value.slice p_4 n_8 c_4,
 Value.bool x_11])) ∧
 ∃ (x_12 : Int),
 (∀ (w' : World),
 S w' →
 w'.cell? (Addr.mk n_6 (0 + 36) none) =
 some (Value.int IntKind.i64 x_12)) ∧
 ∃ (x_13 : Int),
 (∀ (w' : World),
 S w' →
 w'.cell? (Addr.mk n_6 (0 + 33) none) =
 some (Value.int IntKind.i64 x_13)) ∧
 ∃ (x_14 : Int),
 (∀ (w' : World),
 S w' →
 w'.cell? (Addr.mk n_6 (0 + 33) none) =
 some (Value.int IntKind.i64 x_14)) ∧
 S W ∧
 ∃ (f_1 : Nat → Int),
 ∃ (x_15 : Int),
 ∃ (x_16 : Int),
 ∃ (p_5 : Option Addr),
 ∃ (n_9 : Nat),
 ∃ (c_5 : Nat),
 ∃ (x_17 : Int),
 ∃ (x_18 : Int),
 ∃ (p_6 : Option Addr),
 ∃ (n_10 : Nat),
 ∃ (c_6 : Nat),
 ∃ (x_19 : Bool),
 gimp (!permC x_12)
 (∀ (w' : World),
 S w' →
 AtL w' n_6 0
 (arrI IntKind.u8 f_1 32 0 ++ [Value.int IntKind.i64 x_15,
 Value.int IntKind.i64 x_16,
 Value.slice p_5 n_9 c_5,
 Value.int IntKind.i64 x_17,
 Value.int IntKind.i64 x_18,
 Value.slice p_6 n_10 c_6,
 Value.bool x_19])) ∧
 bsp (!permC x_12)
 (CallsS Tryz.prog 39
 #[Value.agg
 (arrI IntKind.u8 f_1 32 0 ++ [Value.int IntKind.i64 x_15,
 Value.int IntKind.i64 x_16,
 Value.slice p_5 n_9 c_5,
 Value.int IntKind.i64 x_17,
 Value.int IntKind.i64 x_18,
 Value.slice p_6 n_10 c_6,
 Value.bool x_19]).toArray]
 W fun (e : Ending) (w' : World) =>
 ∃ (x_20 : Bool),
 e =
 Ending.returned (Value.bool x_20) ∧
 S w' ∧
 ∃ (f_2 : Nat → Int),
 ∃ (x_21 : Int),
 ∃ (x_22 : Int),
 ∃ (p_7 : Option Addr),
 ∃ (n_11 : Nat),
 ∃ (c_7 : Nat),
 ∃ (x_23 : Int),
 ∃ (x_24 : Int),
 ∃ (p_8 : Option Addr),
 ∃ (n_12 : Nat),
 ∃ (c_8 : Nat),
 ∃ (x_25 : Bool),
 gimp (!false && x_20)
 (∀ (w' : World),
 S w' →
 AtL w' n_6 0
 (arrI IntKind.u8 f_2 32 0 ++ [Value.int
 IntKind.i64 x_21,
 Value.int
 IntKind.i64 x_22,
 Value.slice p_7
 n_11 c_7,
 Value.int
 IntKind.i64 x_23,
 Value.int
 IntKind.i64 x_24,
 Value.slice p_8
 n_12 c_8,
 Value.bool
 x_25])) ∧
 bsp x_20
 (CallsS Tryz.prog 40
 #[Value.agg
 (arrI IntKind.u8 f_2 32 0 ++ [Value.int
 IntKind.i64 x_21,
 Value.int
 IntKind.i64 x_22,
 Value.slice p_7
 n_11 c_7,
 Value.int
 IntKind.i64 x_23,
 Value.int
 IntKind.i64 x_24,
 Value.slice p_8
 n_12 c_8,
 Value.bool x_25]).toArray]
 w'
 fun (e : Ending)
 (w' : World) =>
 ∃ (x_26 : Int),
 e =
 Ending.returned
 (Value.int
 IntKind.i64
 x_26) ∧
 S w' ∧
 ∀ (n_13 : Nat)
 (w1 : World),
 NewB w'
 (Obj.cells
 (arrI IntKind.u8 f 32 0 ++ [Value.int
 IntKind.i64
 x,
 Value.int
 IntKind.i64
 x_8,
 Value.slice
 p_3 n_7 c_3,
 Value.int
 IntKind.i64
 x_9,
 Value.int
 IntKind.i64
 x_10,
 Value.slice
 p_4 n_8 c_4,
 Value.bool
 x_11,
 Value.bool
 (false ||
 true &&
 decide
 (now ≤
 x_26)),
 Value.bool
 (decide
 (now ≥
 IntKind.i64.wrap
 (x_13 +
 IntKind.i64.wrap
 (x_7 *
 1440)))),
 Value.bool
 (decide
 (now ≥
 IntKind.i64.wrap
 (x_14 +
 IntKind.i64.wrap
 (x_6 *
 1440))))]).toArray
 103)
 n_13 w1 →
 S w1 ∧
 ∃ (base : Nat),
 ∃ (xs :
 List Value),
 ∃ (news :
 List Value),
 w1.ownsRow
 base 103
 42
 (Value.slice
 p n c)
 n xs ∧
 news.length =
 42 ∧
 SrcP w1
 (some
 (Addr.mk
 n_13 0
 none))
 news ∧
 n + 1 ≤
 9223372036854775807 ∧
 (n +
 1) *
 128 ≤
 140737488355328 ∧
 base ≤
 w1.heap.size ∧
 ∀
 (p' :
 Option
 Addr)
 (c' :
 Nat)
 (w' :
 World),
 w'.ownsRow
 base
 103
 42
 (Value.slice
 p'
 (n +
 1)
 c')
 (n +
 1)
 (xs ++
 news) →
 w1.grownBy
 w'
 (Value.slice
 p
 n
 c).ownBlock →
 (n +
 1 ≤
 c →
 p' =
 p ∧
 c' =
 c) →
 ((∃
 (u
 :
 Value),
 w'.cell?
 (Addr.mk
 n_3
 0
 none) =
 some
 u) ∧
 w'.frozen?
 (Addr.mk
 n_3
 0
 none) =
 false) ∧
 ∀
 (w1 :
 World),
 PutB
 w'
 n_3
 0
 [Value.slice
 p'
 (n +
 1)
 c']
 w1 →
 KeptL
 [n_1,
 n_6]
 W
 w1 ∧
 J
 []
 w1)
 (S w' ∧
 ∀ (n_13 : Nat)
 (w1 : World),
 NewB w'
 (Obj.cells
 (arrI IntKind.u8 f 32 0 ++ [Value.int
 IntKind.i64 x,
 Value.int
 IntKind.i64
 x_8,
 Value.slice p_3
 n_7 c_3,
 Value.int
 IntKind.i64
 x_9,
 Value.int
 IntKind.i64
 x_10,
 Value.slice p_4
 n_8 c_4,
 Value.bool x_11,
 Value.bool
 (false ||
 false),
 Value.bool
 (decide
 (now ≥
 IntKind.i64.wrap
 (x_13 +
 IntKind.i64.wrap
 (x_7 *
 1440)))),
 Value.bool
 (decide
 (now ≥
 IntKind.i64.wrap
 (x_14 +
 IntKind.i64.wrap
 (x_6 *
 1440))))]).toArray
 103)
 n_13 w1 →
 S w1 ∧
 ∃ (base : Nat),
 ∃ (xs :
 List Value),
 ∃ (news :
 List Value),
 w1.ownsRow base
 103 42
 (Value.slice
 p n c)
 n xs ∧
 news.length =
 42 ∧
 SrcP w1
 (some
 (Addr.mk
 n_13 0
 none))
 news ∧
 n + 1 ≤
 9223372036854775807 ∧
 (n + 1) *
 128 ≤
 140737488355328 ∧
 base ≤
 w1.heap.size ∧
 ∀
 (p' :
 Option
 Addr)
 (c' :
 Nat)
 (w' :
 World),
 w'.ownsRow
 base
 103 42
 (Value.slice
 p'
 (n +
 1)
 c')
 (n +
 1)
 (xs ++
 news) →
 w1.grownBy
 w'
 (Value.slice
 p n
 c).ownBlock →
 (n +
 1 ≤
 c →
 p' =
 p ∧
 c' =
 c) →
 ((∃
 (u
 :
 Value),
 w'.cell?
 (Addr.mk
 n_3
 0
 none) =
 some
 u) ∧
 w'.frozen?
 (Addr.mk
 n_3
 0
 none) =
 false) ∧
 ∀
 (w1 :
 World),
 PutB
 w'
 n_3
 0
 [Value.slice
 p'
 (n +
 1)
 c']
 w1 →
 KeptL
 [n_1,
 n_6]
 W
 w1 ∧
 J
 []
 w1))
 (S W ∧
 S W ∧
 ∀ (n_11 : Nat) (w1 : World),
 NewB W
 (Obj.cells
 (arrI IntKind.u8 f 32 0 ++ [Value.int IntKind.i64 x,
 Value.int IntKind.i64 x_8,
 Value.slice p_3 n_7 c_3,
 Value.int IntKind.i64 x_9,
 Value.int IntKind.i64 x_10,
 Value.slice p_4 n_8 c_4,
 Value.bool x_11, Value.bool true,
 Value.bool
 (decide
 (now ≥
 IntKind.i64.wrap
 (x_13 +
 IntKind.i64.wrap
 (x_7 * 1440)))),
 Value.bool
 (decide
 (now ≥
 IntKind.i64.wrap
 (x_14 +
 IntKind.i64.wrap
 (x_6 * 1440))))]).toArray
 103)
 n_11 w1 →
 S w1 ∧
 ∃ (base : Nat),
 ∃ (xs : List Value),
 ∃ (news : List Value),
 w1.ownsRow base 103 42
 (Value.slice p n c) n xs ∧
 news.length = 42 ∧
 SrcP w1
 (some (Addr.mk n_11 0 none))
 news ∧
 n + 1 ≤ 9223372036854775807 ∧
 (n + 1) * 128 ≤
 140737488355328 ∧
 base ≤ w1.heap.size ∧
 ∀ (p' : Option Addr)
 (c' : Nat) (w' : World),
 w'.ownsRow base 103 42
 (Value.slice p' (n + 1)
 c')
 (n + 1) (xs ++ news) →
 w1.grownBy w'
 (Value.slice p n
 c).ownBlock →
 (n + 1 ≤ c →
 p' = p ∧ c' = c) →
 ((∃ (u : Value),
 w'.cell?
 (Addr.mk n_3 0
 none) =
 some u) ∧
 w'.frozen?
 (Addr.mk n_3 0
 none) =
 false) ∧
 ∀ (w1 : World),
 PutB w' n_3 0
 [Value.slice p'
 (n + 1) c']
 w1 →
 KeptL [n_1, n_6] W
 w1 ∧
 J [] w1)) ∧
 ∀ (w'_2 : World),
 J [] w'_2 →
 Loc w.heap.size
 [Blk.mk n_1 74 [Value.slice p n c, Value.slice q k d] 0,
 Blk.mk n_6 46
 (arrI IntKind.u8 f 32 0 ++ [Value.int IntKind.i64 x_1, Value.int IntKind.i64 x_2,
 Value.slice p_1 n_4 c_1, Value.int IntKind.i64 x_3,
 Value.int IntKind.i64 x_4, Value.slice p_2 n_5 c_2, Value.bool x_5])
 0]
 w'_2 w'_2 →
 ∃ (x_8 : Option Nat),
 (∀ (W : World),
 Loc w.heap.size
 [Blk.mk n_1 74 [Value.slice p n c, Value.slice q k d] 0,
 Blk.mk n_6 46
 (arrI IntKind.u8 f 32 0 ++ [Value.int IntKind.i64 x_1, Value.int IntKind.i64 x_2,
 Value.slice p_1 n_4 c_1, Value.int IntKind.i64 x_3,
 Value.int IntKind.i64 x_4, Value.slice p_2 n_5 c_2, Value.bool x_5])
 0]
 w'_2 W →
 W.cell? (Addr.mk n_3 (0 + 1) none) = some (Value.map x_8)) ∧
 ∀ (W : World),
 Loc w.heap.size
 [Blk.mk n_1 74 [Value.slice p n c, Value.slice q k d] 0,
 Blk.mk n_6 46
 (arrI IntKind.u8 f 32 0 ++ [Value.int IntKind.i64 x_1, Value.int IntKind.i64 x_2,
 Value.slice p_1 n_4 c_1, Value.int IntKind.i64 x_3,
 Value.int IntKind.i64 x_4, Value.slice p_2 n_5 c_2, Value.bool x_5])
 0]
 w'_2 W →
 ∃ (w1 : World),
 UpdP Tryz.prog 97 (Value.map x_8)
 (Value.agg
 (arrI IntKind.u8 f 32 0).toArray)
 (Value.bool true) W w1 ∧
 KeptL [n_1, n_6] W w1 ∧
 ∃ (x_9 : Int),
 (∀ (W : World),
 Loc w.heap.size
 [Blk.mk n_1 74 [Value.slice p n c, Value.slice q k d] 0,
 Blk.mk n_6 46
 (arrI IntKind.u8 f 32 0 ++ [Value.int IntKind.i64 x_1, Value.int IntKind.i64 x_2,
 Value.slice p_1 n_4 c_1, Value.int IntKind.i64 x_3,
 Value.int IntKind.i64 x_4, Value.slice p_2 n_5 c_2,
 Value.bool x_5])
 0]
 w1 W →
 W.cell? (Addr.mk n_3 (0 + 2) none) =
 some (Value.int IntKind.i64 x_9)) ∧
 ∀ (W : World),
 Loc w.heap.size
 [Blk.mk n_1 74 [Value.slice p n c, Value.slice q k d] 0,
 Blk.mk n_6 46
 (arrI IntKind.u8 f 32 0 ++ [Value.int IntKind.i64 x_1, Value.int IntKind.i64 x_2,
 Value.slice p_1 n_4 c_1, Value.int IntKind.i64 x_3,
 Value.int IntKind.i64 x_4, Value.slice p_2 n_5 c_2,
 Value.bool x_5])
 0]
 w1 W →
 ((∃ (u : Value), W.cell? (Addr.mk n_3 (0 + 2) none) = some u) ∧
 W.frozen? (Addr.mk n_3 (0 + 2) none) = false) ∧
 ∀ (w1 : World),
 PutB W n_3 (0 + 2)
 [Value.int IntKind.i64 (IntKind.i64.wrap (x_9 + x_3))] w1 →
 KeptL [n_1, n_6] W w1 ∧
 I [Value.int IntKind.i64 (IntKind.i64.wrap (x + 1))] w1 ∧
 m [Value.int IntKind.i64 (IntKind.i64.wrap (x + 1))] w1 <
 m [Value.int IntKind.i64 x] w')
 (∃ (p : Option Addr),
 ∃ (n : Nat),
 ∃ (c : Nat),
 w'.cell? (Addr.mk n_3 0 none) = some (Value.slice p n c) ∧
 CallsS Tryz.prog 41 #[Value.slice p n c, Value.func (Fn.func 42) #[] #[]] w'
 fun (e : Ending) (w'_1 : World) =>
 e = Ending.returned (Value.tuple #[]) ∧
 KeptL [n_1] w' w'_1 ∧ R (Ending.returned (Value.pointer (some (Addr.mk n_3 0 none)))) w'_1)
theorem vc_enewP (p : Option Addr) (n : Nat) (c : Nat) (q : Option Addr) (k : Nat) (d : Nat) (p3 : Option Addr) (n3 : Nat) (c3 : Nat) (now : Int) (budget : Int) (w : World) (R : Ending → World → Prop) (h : VC_enewP p n c q k d p3 n3 c3 now budget w R) : Calls Tryz.prog 28 ([Value.agg
    #[Value.slice p n c, Value.slice q k d],
  Value.slice p3 n3 c3, Value.int IntKind.i64 now, Value.int IntKind.i64 budget] : List Value).toArray w R := by
  have e : execR2 { P := Tryz.prog, loops := [(3, [(20, Ck.int IntKind.i64)])], pur := pur2, tails := [(6, 11), (7, 6), (8, 9)], joins := [(7, [])], boxes := [] } Tryz.f28.results.toList R (Tryz.f28.body.getD .skip) (initF [Value.agg
    #[Value.slice p n c, Value.slice q k d],
  Value.slice p3 n3 c3, Value.int IntKind.i64 now,
  Value.int IntKind.i64
    budget] (Tryz.f28.ntmps - ([Value.agg #[Value.slice p n c, Value.slice q k d], Value.slice p3 n3 c3,
  Value.int IntKind.i64 now,
  Value.int IntKind.i64 budget] : List Value).length)) w = VC_enewP p n c q k d p3 n3 c3 now budget w R := by kernel_rfl
  have hb : Tryz.f28.body = some (Tryz.f28.body.getD .skip) := by kernel_rfl
  exact calls_of_exec2' (P := Tryz.prog) (fn := Tryz.f28) (c := Tryz.f28.body.getD .skip) (args := [Value.agg
    #[Value.slice p n c, Value.slice q k d],
  Value.slice p3 n3 c3, Value.int IntKind.i64 now,
  Value.int IntKind.i64 budget]) (w := w) (R := R) pur2_ok Tryz.func28 hb e h

end Go.Proofs.YtmjanmffnblcoaaGreatDoor

/- Chapter 42: the contracts of checkArticles and newPlanner. No condition but sizes. -/
namespace Go.Proofs.YtmjanmffnblcoaaGreatDoor
open Go.RowKit Go.Sort Go.Maps

/-! ### checkArticles -/
def arBad (a : Ar) : Bool := !minB a.date || !minB a.ar || decide (a.by_ < 0) || decide (a.by_ > 1099511627776) || decide (a.ct < 0) || decide (a.ct > 5)
/-- The first error of articles; these identities lie ahead. -/
def errA : List (List Int) → List Ar → Int
  | _, [] => 0
  | seen, a :: l => if arBad a = true then 2 else if a.id ∈ seen then 7 else errA (seen ++ [a.id]) l
def trues (l : List (List Int)) : List (List Int × Value) := l.map fun x => (x, Value.bool true)
theorem aholds_any (x : AX) (w : World) : Calls Tryz.prog 39 #[.agg (axC x).toArray] w fun e w' => e = .returned (.bool (x.ct != 0 || decide ((x.hs.length : Int) > 0))) ∧ K0 w w' := by
  refine vc_aholds x.id x.dt x.ar x.gp x.gs.length x.gc x.by_ x.ct x.hp x.hs.length x.hc x.wd w _ ?_
  intro n
  exact ⟨x.hp, x.hs.length, x.hc, gimp_intro fun _ W hW => cell_at (hW.cells 0 rfl) rfl, fun W hW => ⟨rfl, hW.kk rfl⟩⟩
theorem lastHeld_any (x : AX) (w : World) : Calls Tryz.prog 40 #[.agg (axC x).toArray] w fun e w' => e = .returned (.int .i64 (IntKind.i64.wrap (x.dt + 20160))) ∧ K0 w w' := by
  refine vc_lastHeld x.id x.dt x.ar x.gp x.gs.length x.gc x.by_ x.ct x.hp x.hs.length x.hc x.wd w _ ?_
  intro n W hW
  exact ⟨rfl, hW.kk rfl⟩
theorem byA_idI (f : Nat → Int) : byA (idI f) = .agg (arrI .u8 f 32 0).toArray := rfl
theorem aget_tr {l : List (List Int)} {a : List Int} (h : a ∈ l) : aget (trues l) a = some (Value.bool true) := by unfold trues; rw [aget_trues, if_pos h]
theorem aget_fa {l : List (List Int)} {a : List Int} (h : a ∉ l) : aget (trues l) a = none := by unfold trues; rw [aget_trues, if_neg h]
set_option maxHeartbeats 1000000 in
theorem echeckA_any (l : List AX) (p : Option Addr) (c : Nat) (w : World) (hR : RowA axC 39 w p l) (hl : l.length ≤ 1048576) (hb : ∀ x ∈ l, ∀ j, 0 ≤ x.id j ∧ x.id j ≤ 255) :
    Calls Tryz.prog 27 #[.slice p l.length c] w fun e w' => e = .returned (.int .i64 (errA [] (l.map AX.pl))) ∧ K0 w w' := by
  refine vc_echeckA p l.length c w _ ?_
  intro n1 w1 hn1
  have k1 : K0 w w1 := hn1.kp _
  have g1 : w.heap.size ≤ n1 := hn1.ge
  refine ⟨.of_k0 k1, fun vs w' => ∃ (i : Nat) (seen : List (List Int)), vs = [.int .i64 (i : Int)] ∧ i ≤ l.length ∧ errA seen ((l.drop i).map AX.pl) = errA [] (l.map AX.pl) ∧ MapB Tryz.prog 42 byA w' n1 (trues seen) ∧ K0 w w',
    fun vs _ => (match vs with | .int _ x :: _ => l.length - x.toNat | _ => 0), ⟨0, [], rfl, by omega, rfl, hn1.map, k1⟩, ?_⟩
  rintro x w2 ⟨i, seen, hv, hi, he, hm, k2⟩
  simp only [List.cons.injEq, Value.int.injEq, true_and, and_true] at hv
  subst hv
  refine bsp_intro (fun hlt => ?_) (fun hge => ?_)
  · have hlt : i < l.length := by simp at hlt; omega
    obtain ⟨y, b, o, hy, rfl, hat⟩ := (hR.k0 k2).get hlt
    have hyb := hb y (List.mem_of_getElem? hy)
    have hdr : l.drop i = y :: l.drop (i + 1) := by
      rw [List.drop_eq_getElem_cons hlt]
      rw [List.getElem?_eq_getElem hlt] at hy
      simp at hy
      rw [hy]
    rw [hdr, List.map_cons] at he
    have he' : errA seen (y.pl :: (l.drop (i + 1)).map AX.pl) = if arBad y.pl = true then 2 else if y.pl.id ∈ seen then 7 else errA (seen ++ [y.pl.id]) ((l.drop (i + 1)).map AX.pl) := rfl
    rw [he'] at he
    show (0 ≤ (i : Int) ∧ (i : Int) < (l.length : Int)) ∧ _
    rw [Int.toNat_natCast]
    refine ⟨by omega, y.id, y.dt, y.ar, y.gp, y.gs.length, y.gc, y.by_, y.ct, y.hp, y.hs.length, y.hc, y.wd, hat, fun n3 => ?_⟩
    refine ⟨y.ar, gimp_intro fun _ W hW => cell_at (hW.cells 0 rfl) rfl, y.by_, gimp_intro fun _ W hW => cell_at (hW.cells 0 rfl) rfl, y.by_, gimp_intro fun _ W hW => cell_at (hW.cells 0 rfl) rfl, y.ct, gimp_intro fun _ W hW => cell_at (hW.cells 0 rfl) rfl, y.ct, gimp_intro fun _ W hW => cell_at (hW.cells 0 rfl) rfl, ?_⟩
    refine bsp_intro (fun hbad W hW => ?_) (fun hgood => ?_)
    · have hbad : arBad y.pl = true := hbad
      rw [if_pos hbad] at he
      exact ⟨by rw [← he], k2.trans (hW.kk rfl)⟩
    · have hgood : arBad y.pl = false := hgood
      rw [if_neg (by simp [hgood])] at he
      have hkey := idKey (idI_len y.id) (idI_bd hyb)
      refine ⟨decide (idI y.id ∈ seen), fun W hW => ?_, bsp_intro (fun hin W hW => ?_) (fun hin W hW => ?_)⟩
      · have hm' := hm.kp (hW.kk rfl) (fun h => h)
        have := MapB.look byA_inj hm' idKeyed Tryz.underlying97 (zeroBool W) hkey false
        simp only at this
        by_cases h : idI y.id ∈ seen
        · rw [aget_tr h] at this
          rw [decide_eq_true h]
          exact this
        · rw [aget_fa h] at this
          rw [decide_eq_false h]
          exact this
      · have hin : y.pl.id ∈ seen := of_decide_eq_true hin
        rw [if_pos hin] at he
        exact ⟨by rw [← he], k2.trans (hW.kk rfl)⟩
      · have hin : y.pl.id ∉ seen := of_decide_eq_false hin
        rw [if_neg hin] at he
        have kW : K0 w2 W := hW.kk rfl
        have hm' := hm.kp kW (fun h => h)
        obtain ⟨w3, hu, hm3, k3⟩ := MapB.upd byA_inj hm' idKeyed Tryz.underlying97 hkey (.bool true)
        have hn3 : n3 ≠ n1 := by
          have h1 := hm'.lt
          have h2 := hW.fresh 0 rfl rfl
          have h3 := hm.lt
          simp only at h2
          omega
        refine ⟨w3, hu, .of_kp k3 (fun m hmm => by simp at hmm; omega), ⟨i + 1, seen ++ [y.pl.id], by rw [inc64 (by omega)], hlt, he, ?_, Kp.fresh (k2.trans kW) k3 (fun j hj e => by omega)⟩, by rw [inc64 (by omega)]; simp only [Int.toNat_natCast]; omega⟩
        have e : aset (trues seen) (idI y.id) (Value.bool true) = trues (seen ++ [y.pl.id]) := by
          rw [aset_new (fun p hp => ?_)]
          · unfold trues; rw [List.map_append]; rfl
          · obtain ⟨z, hz, rfl⟩ := List.mem_map.1 hp
            intro h
            simp only at h
            rw [h] at hz
            exact hin hz
        rw [← e]
        exact hm3
  · have hi : i = l.length := by simp at hge; omega
    rw [hi, List.drop_length] at he
    exact ⟨by rw [← he]; rfl, k2⟩

/-! ### newPlanner -/
def idX (y : CX) : List Int := idI y.a.id
/-- A planner in the memory; its map holds these identities. -/
structure PlR (w0 w : World) (b : Nat) (p : Option Addr) (c mb : Nat) (tot budget : Int) (l : List CX) (ids : List (List Int)) : Prop where
  blk : w.heap[b]? = some (.cells #[.slice p l.length c, .map (some mb), .int .i64 tot, .int .i64 budget] 100 (0, 0))
  own : w.ownsRow w0.heap.size 103 42 (.slice p l.length c) l.length (l.flatMap cxC)
  map : ∃ ml, MapB Tryz.prog 42 byA w mb ml ∧ ∀ i, (i ∈ ids → aget ml i = some (Value.bool true)) ∧ (i ∉ ids → aget ml i = none)
  art : ∀ y ∈ l, AXR w0 y.a
  k0 : K0 w0 w
  hb : w0.heap.size ≤ b
  hmb : w0.heap.size ≤ mb
theorem PlR.kp {w0 w w' : World} {b : Nat} {p : Option Addr} {c mb : Nat} {tot budget : Int} {l : List CX} {ids : List (List Int)} {M : Nat → Prop} (h : PlR w0 w b p c mb tot budget l ids) (hk : Kp M w w') (h1 : ¬ M b) (h2 : ∀ k, (Value.slice p l.length c).ownBlock = some k → ¬ M k) (h3 : ¬ M mb) (h0 : K0 w0 w') : PlR w0 w' b p c mb tot budget l ids := by
  obtain ⟨ml, hm, hi⟩ := h.map
  exact ⟨hk.blk h.blk h1, owns_kp h.own hk h2, ⟨ml, hm.kp hk h3, hi⟩, h.art, h0, h.hb, h.hmb⟩
theorem PlR.k {w0 w w' : World} {b : Nat} {p : Option Addr} {c mb : Nat} {tot budget : Int} {l : List CX} {ids : List (List Int)} (h : PlR w0 w b p c mb tot budget l ids) (hk : K0 w w') : PlR w0 w' b p c mb tot budget l ids :=
  h.kp hk (fun h => h) (fun _ _ h => h) (fun h => h) (h.k0.trans hk)
def mkC (L : List Rl) (now : Int) (x : AX) : CX := ⟨x, fixB now x.pl, overB L now x.pl, mayB L now x.pl⟩
/-- Articles as checkArticles lets them by. -/
structure ArOK (x : AX) : Prop where
  dt : 0 ≤ x.dt ∧ x.dt ≤ 105190559
  ar : 0 ≤ x.ar ∧ x.ar ≤ 105190559
  by_ : 0 ≤ x.by_ ∧ x.by_ ≤ 1099511627776
  ct : 0 ≤ x.ct ∧ x.ct ≤ 5
  gl : x.gs.length ≤ 1048576
  gz : ∀ z ∈ x.gs, z.size ≤ 9223372036854775807
  hl : x.hs.length ≤ 1048576
  id : ∀ j, 0 ≤ x.id j ∧ x.id j ≤ 255
  hs : ∀ h ∈ x.hs, ∀ j, 0 ≤ h j ∧ h j ≤ 255
def sumB (l : List AX) : Int := (l.map (·.by_)).sum
theorem sumB_snoc (l : List AX) (x : AX) : sumB (l ++ [x]) = sumB l + x.by_ := by
  unfold sumB
  rw [List.map_append, List.sum_append]
  simp
theorem sumB_bd : ∀ (l : List AX), (∀ x ∈ l, 0 ≤ x.by_ ∧ x.by_ ≤ 1099511627776) → 0 ≤ sumB l ∧ sumB l ≤ l.length * 1099511627776
  | [], _ => by simp [sumB]
  | x :: l, h => by
    have ih := sumB_bd l (fun y hy => h y (by simp [hy]))
    have := h x (by simp)
    have e : sumB (x :: l) = x.by_ + sumB l := by simp [sumB]
    rw [e, List.length_cons]
    omega

end Go.Proofs.YtmjanmffnblcoaaGreatDoor

/- Chapter 42: the contract of newPlanner. No condition but sizes. -/
namespace Go.Proofs.YtmjanmffnblcoaaGreatDoor
open Go.RowKit Go.Sort Go.Maps

theorem own_not {w : World} {base : Nat} {e t : TypeId} {size : Nat} {v : Value} {n : Nat} {xs : List Value} (h : w.ownsRow base e size v n xs) {k : Nat} {c : Array Value} {f : Nat × Nat} (hk : w.heap[k]? = some (.cells c t f)) (hne : (t == e) = false) : ¬ v.ownBlock = some k := fun he => by
  obtain ⟨c', h1⟩ := own_type h he
  rw [hk] at h1
  simp at h1
  rw [h1.2.1] at hne
  simp at hne
theorem own_notMap {w : World} {base : Nat} {e : TypeId} {size : Nat} {v : Value} {n : Nat} {xs : List Value} (h : w.ownsRow base e size v n xs) {k cl : Nat} {es : Array MapEntry} (hk : w.heap[k]? = some (.map es cl)) : ¬ v.ownBlock = some k := fun he => by
  obtain ⟨c', h1⟩ := own_type h he
  rw [hk] at h1
  simp at h1
theorem blk_ne {w : World} {a b : Nat} {c c' : Array Value} {t t' : TypeId} {f f' : Nat × Nat} (h : w.heap[a]? = some (.cells c t f)) (h' : w.heap[b]? = some (.cells c' t' f')) (hne : (t == t') = false) : a ≠ b := fun e => by
  subst e
  rw [h] at h'
  simp at h'
  rw [h'.2.1] at hne
  simp at hne
theorem blk_neMap {w : World} {a b cl : Nat} {c : Array Value} {t : TypeId} {f : Nat × Nat} {es : Array MapEntry} (h : w.heap[a]? = some (.cells c t f)) (h' : w.heap[b]? = some (.map es cl)) : a ≠ b := fun e => by
  subst e
  rw [h] at h'
  simp at h'
theorem cell_wr2 {w : World} {b o : Nat} {c : Array Value} {t : TypeId} {v : Value} (h : w.heap[b]? = some (.cells c t (0, 0))) (hv : c[o]? = some v) : (∃ u, w.cell? ⟨b, o, none⟩ = some u) ∧ w.frozen? ⟨b, o, none⟩ = false := ⟨⟨v, cell_at h hv⟩, frozen_block h _⟩
theorem PlR.mapAt {w0 w : World} {b : Nat} {p : Option Addr} {c mb : Nat} {tot budget : Int} {l : List CX} {ids : List (List Int)} (h : PlR w0 w b p c mb tot budget l ids) : ∃ es cl, w.heap[mb]? = some (.map es cl) := by
  obtain ⟨ml, hm, _⟩ := h.map
  obtain ⟨es, cl, h1, _⟩ := hm.blk
  exact ⟨es, cl, h1⟩

set_option maxHeartbeats 2000000 in
theorem enewP_any {N : Nat} (L : List Rl) (p : Option Addr) (c : Nat) (q : Option Addr) (d : Nat) (bs : List Nat) (l : List AX) (p3 : Option Addr) (c3 : Nat) (now budget : Int) (w : World)
    (hR : RowA rlC 3 w p L) (hP : RlsR N w q d L bs) (hb : bs.length = L.length) (hL : L.length ≤ 64) (hrl : ∀ r ∈ L, 0 ≤ r.lo ∧ r.lo ≤ r.hi ∧ r.hi ≤ 36500)
    (hA : RowA axC 39 w p3 l) (hX : ∀ x ∈ l, AXR w x) (hok : ∀ x ∈ l, ArOK x) (hl : l.length ≤ 1000) :
    Calls Tryz.prog 28 #[.agg #[.slice p L.length c, .slice q L.length d], .slice p3 l.length c3, .int .i64 now, .int .i64 budget] w fun e w' => ∃ (b : Nat) (p' : Option Addr) (c' mb : Nat) (hs : List CX),
      e = .returned (.pointer (some ⟨b, 0, none⟩)) ∧ PlR w w' b p' c' mb (sumB l) budget hs (l.map fun x => idI x.id) ∧ hs.Perm (l.map (mkC L now)) ∧ hs.Pairwise (fun x y => ¬ cfX y x < 0) := by
  refine vc_enewP p L.length c q L.length d p3 l.length c3 now budget w _ ?_
  intro n1 W hW n2 w1 hn2
  have kW : K0 w W := hW.kk rfl
  have k1 : K0 W w1 := hn2.kp _
  refine ⟨.of_k0 k1, fun n3 W3 hW3 => ?_⟩
  have k3 : K0 w1 W3 := hW3.kk rfl
  have kw3 : K0 w W3 := (kW.trans k1).trans k3
  have g2 : w.heap.size ≤ n2 := Nat.le_trans kW.size hn2.ge
  have g3 : w.heap.size ≤ n3 := hW3.le 0 rfl
  refine ⟨fun vs w' => ∃ (i : Nat) (p' : Option Addr) (c' : Nat), vs = [.int .i64 (i : Int)] ∧ i ≤ l.length ∧ PlR w w' n3 p' c' n2 (sumB (l.take i)) budget ((l.take i).map (mkC L now)) ((l.take i).map fun x => idI x.id),
    fun vs _ => (match vs with | .int _ x :: _ => l.length - x.toNat | _ => 0), ⟨0, none, 0, rfl, by omega, hW3.cells 0 rfl, World.ownsRow_nil _ _ _ _, ⟨[], hn2.map.kp k3 (fun h => h), fun i => ⟨(fun h => by cases h), fun _ => rfl⟩⟩, (fun y hy => by cases hy), kw3, g3, g2⟩, ?_⟩
  rintro x w4 ⟨i, p', c', hv, hi, hpl⟩ hL4
  simp only [List.cons.injEq, Value.int.injEq, true_and, and_true] at hv
  subst hv
  have kw4 := hpl.k0
  have hlen : ((l.take i).map (mkC L now)).length = i := by rw [List.length_map, List.length_take]; omega
  refine bsp_intro (fun hlt => ?_) (fun hge => ?_)
  · have hlt : i < l.length := by simp at hlt; omega
    obtain ⟨y, b, o, hy, rfl, hat⟩ := (hA.k0 kw4).get hlt
    have hyl := List.mem_of_getElem? hy
    have oky := hok y hyl
    have htk : l.take (i + 1) = l.take i ++ [y] := take_snoc hy
    show (0 ≤ (i : Int) ∧ (i : Int) < (l.length : Int)) ∧ _
    rw [Int.toNat_natCast]
    refine ⟨by omega, y.id, y.dt, y.ar, y.gp, y.gs.length, y.gc, y.by_, y.ct, y.hp, y.hs.length, y.hc, y.wd, hat, fun n6 W6 hW6 => ?_⟩
    have k46 : K0 w4 W6 := hW6.kk rfl
    have kw6 : K0 w W6 := kw4.trans k46
    refine ⟨(edays_any L p c q d bs y W6 (hR.k0 kw6) (hP.k0 kw6) hb hL ((hX y hyl).gs.k0 kw6) oky.gl oky.gz).mono fun e w7 ⟨he, k67⟩ => ⟨_, _, he, .of_k0 k67, ?_⟩⟩
    have hdb := daysR_bd hrl y.gs
    refine ⟨fun vs w' => vs = [] ∧ ∃ (p' : Option Addr) (c' : Nat), PlR w w' n3 p' c' n2 (sumB (l.take i)) budget ((l.take (i + 1)).map (mkC L now)) ((l.take i).map fun x => idI x.id), fun W7 hW7 => ?_, ?_⟩
    · have k7 : K0 w7 W7 := hW7.kk rfl
      have k47 : K0 w4 W7 := (k46.trans k67).trans k7
      have kw7 : K0 w W7 := kw4.trans k47
      have hpl7 := hpl.k k47
      have hb3 := hpl7.blk
      rw [hlen] at hb3
      have ho7 := hpl7.own
      rw [hlen] at ho7
      have hbn1 := hW7.cells 0 rfl
      have hbn6 := hW7.cells 1 rfl
      have eat : ∀ {wx : World}, K0 W7 wx → AtL wx n6 0 (axC y) := fun hk => AtL_block (hk.blk hbn6 (fun h => h)) rfl
      obtain ⟨es, cl, hmb⟩ := hpl7.mapAt
      -- one candidate more
      have app : ∀ (v : List Value), v = cxC (mkC L now y) → ∀ (wx : World), K0 W7 wx → ∀ (n13 : Nat) (wn : World), NewB wx (.cells v.toArray 103) n13 wn → K0 W7 wn ∧
          ∃ (base : Nat) (xs news : List Value), wn.ownsRow base 103 42 (.slice p' i c') i xs ∧ news.length = 42 ∧ SrcP wn (some (Addr.mk n13 0 none)) news ∧ i + 1 ≤ 9223372036854775807 ∧ (i + 1) * 128 ≤ 140737488355328 ∧ base ≤ wn.heap.size ∧
            ∀ (p'' : Option Addr) (c'' : Nat) (w' : World), w'.ownsRow base 103 42 (.slice p'' (i + 1) c'') (i + 1) (xs ++ news) → wn.grownBy w' (Value.slice p' i c').ownBlock → (i + 1 ≤ c' → p'' = p' ∧ c'' = c') →
              ((∃ (u : Value), w'.cell? (Addr.mk n3 0 none) = some u) ∧ w'.frozen? (Addr.mk n3 0 none) = false) ∧ ∀ (wp : World), PutB w' n3 0 [Value.slice p'' (i + 1) c''] wp → KeptL [n1, n6] W7 wp ∧
                (([] : List Value) = [] ∧ ∃ (p' : Option Addr) (c' : Nat), PlR w wp n3 p' c' n2 (sumB (l.take i)) budget ((l.take (i + 1)).map (mkC L now)) ((l.take i).map fun x => idI x.id)) := by
        intro v hv wx kx n13 wn hn
        have kn : K0 W7 wn := kx.trans (hn.kp _)
        refine ⟨kn, ?_⟩
        have hox := owns_kp ho7 kx (fun _ _ h => h)
        refine app1 hox (Nat.le_trans kw7.size kx.size) hn (by rw [hv]; exact cxC_length _) (by rw [hv]; exact cxC_one _) (by omega) (by omega) (fun p'' c'' w' ho' hk' _ => ?_)
        have kk : Kp (fun k => (Value.slice p' i c').ownBlock = some k) W7 w' := Kp.trans (kx.mono (fun _ _ h => h.elim)) hk'
        have n3r : ¬ (Value.slice p' i c').ownBlock = some n3 := own_not ho7 hb3 rfl
        have hb3' := kk.blk hb3 n3r
        have kwp : K0 w w' := Kp.fresh kw7 kk (fun j hj e => by have := own_ge ho7 e; omega)
        refine ⟨cell_wr2 hb3' rfl, fun wp hp => ⟨?_, rfl, p'', c'', ?_⟩⟩
        · refine .of_kp (M := fun k => (Value.slice p' i c').ownBlock = some k ∨ k = n3) ((kk.mono fun _ _ h => .inl h).trans (hp.kp.mono fun _ _ h => .inr h)) (fun m hm => ?_)
          simp only [List.mem_cons, List.not_mem_nil, or_false] at hm
          rcases hm with rfl | rfl
          · rintro (h | h)
            · exact own_not ho7 hbn1 rfl h
            · exact blk_ne hbn1 hb3 rfl h
          · rintro (h | h)
            · exact own_not ho7 hbn6 rfl h
            · exact blk_ne hbn6 hb3 rfl h
        · have hcs : (l.take (i + 1)).map (mkC L now) = (l.take i).map (mkC L now) ++ [mkC L now y] := by rw [htk, List.map_append]; rfl
          have hl1 : ((l.take (i + 1)).map (mkC L now)).length = i + 1 := by rw [hcs, List.length_append, hlen]; rfl
          have n2r : ¬ (Value.slice p' i c').ownBlock = some n2 := own_notMap ho7 hmb
          have n23 : n3 ≠ n2 := blk_neMap hb3 hmb
          refine ⟨by rw [hp.block hb3', hl1]; rfl, ?_, ?_, ?_, put_k0 kwp hp g3, g3, g2⟩
          · rw [hl1, hcs, List.flatMap_append]
            have := owns_kp ho' hp.kp (fun k hk e => by
              subst e
              exact own_not ho' hb3' rfl hk)
            rw [hv] at this
            simpa using this
          · obtain ⟨ml, hm, hi'⟩ := hpl7.map
            exact ⟨ml, (hm.kp kk n2r).kp hp.kp (fun e => n23 e.symm), hi'⟩
          · intro z hz
            rw [hcs] at hz
            rcases List.mem_append.1 hz with h | h
            · exact hpl7.art z h
            · simp at h
              subst h
              exact hX y hyl
      have hS : ∀ {wx : World}, K0 W7 wx → wx.cell? ⟨n3, 0, none⟩ = some (.slice p' i c') := fun hk => cell_at (hk.blk hb3 (fun h => h)) rfl
      have ov : decide (now ≥ IntKind.i64.wrap (y.ar + IntKind.i64.wrap ((daysR L y.gs).2 * 1440))) = overB L now y.pl := by
        have h1 := oky.ar
        rw [wr64 (x := (daysR L y.gs).2 * 1440) (by omega) (by omega), wr64 (by omega) (by omega)]
        rfl
      have my : decide (now ≥ IntKind.i64.wrap (y.ar + IntKind.i64.wrap ((daysR L y.gs).1 * 1440))) = mayB L now y.pl := by
        have h1 := oky.ar
        rw [wr64 (x := (daysR L y.gs).1 * 1440) (by omega) (by omega), wr64 (by omega) (by omega)]
        rfl
      refine ⟨fun w' => K0 W7 w', .refl _ _, p', i, c', fun wx hk => hS hk, y.id, y.dt, y.ar, y.gp, y.gs.length, y.gc, y.by_, y.ct, y.hp, y.hs.length, y.hc, y.wd, fun wx hk => eat hk, y.ct, fun wx hk => cell_at (hk.blk hbn6 (fun h => h)) rfl, y.ar, fun wx hk => cell_at (hk.blk hbn6 (fun h => h)) rfl, y.ar, fun wx hk => cell_at (hk.blk hbn6 (fun h => h)) rfl, .refl _ _, y.id, y.dt, y.ar, y.gp, y.gs.length, y.gc, y.by_, y.ct, y.hp, y.hs.length, y.hc, y.wd, gimp_intro fun _ wx hk => eat hk, ?_⟩
      have fixE : fixB now y.pl = (permC y.ct || ((y.ct != 0 || decide ((y.hs.length : Int) > 0)) && decide (now ≤ y.dt + 20160))) := by
        unfold fixB
        have e : (!(y.pl.holds).isEmpty) = decide ((y.hs.length : Int) > 0) := by
          show (!((y.hs.map idI).isEmpty)) = _
          cases y.hs <;> simp
        rw [e]
        rfl
      refine bsp_intro (fun hperm => ?_) (fun hperm => ?_)
      · have hperm : permC y.ct = false := by simpa using hperm
        refine ⟨(aholds_any y W7).mono fun e w8 ⟨he, k8⟩ => ⟨_, he, k8, y.id, y.dt, y.ar, y.gp, y.gs.length, y.gc, y.by_, y.ct, y.hp, y.hs.length, y.hc, y.wd, gimp_intro fun _ wx hk => eat hk, ?_⟩⟩
        refine bsp_intro (fun hh => ?_) (fun hh => ?_)
        · refine ⟨(lastHeld_any y w8).mono fun e w9 ⟨he, k9⟩ => ⟨_, he, k8.trans k9, fun n13 wn hn => app _ ?_ w9 (k8.trans k9) n13 wn hn⟩⟩
          have h2 := oky.dt
          rw [ov, my, wr64 (x := y.dt + 20160) (by omega) (by omega)]
          unfold cxC mkC
          simp only [fixE, hperm, hh, Bool.false_or, Bool.true_and]
        · refine ⟨k8, fun n13 wn hn => app _ ?_ w8 k8 n13 wn hn⟩
          rw [ov, my]
          unfold cxC mkC
          simp only [fixE, hperm, hh, Bool.false_or, Bool.false_and]
      · have hperm : permC y.ct = true := by simpa using hperm
        refine ⟨.refl _ _, .refl _ _, fun n13 wn hn => app _ ?_ W7 (.refl _ _) n13 wn hn⟩
        rw [ov, my]
        unfold cxC mkC
        simp only [fixE, hperm, Bool.true_or]
    · -- the map and the bytes
      rintro w8 ⟨-, p8, c8, hpl8⟩ hL8
      have hb8 := hpl8.blk
      refine ⟨some n2, fun W9 hW9 => cell_at ((hW9.kk rfl).blk hb8 (fun h => h)) rfl, fun W9 hW9 => ?_⟩
      have k9 : K0 w8 W9 := hW9.kk rfl
      have hpl9 := hpl8.k k9
      obtain ⟨ml, hm9, hmi⟩ := hpl9.map
      obtain ⟨es, cl, hmb⟩ := hpl9.mapAt
      obtain ⟨w10, hu, hm10, k10⟩ := MapB.upd byA_inj hm9 idKeyed Tryz.underlying97 (idKey (idI_len y.id) (idI_bd oky.id)) (.bool true)
      have hbn1 := hW9.cells 0 rfl
      have hbn6 := hW9.cells 1 rfl
      have hb9 := hpl9.blk
      have hb10 := k10.blk hb9 (blk_neMap hb9 hmb)
      refine ⟨w10, hu, .of_kp k10 (fun m hmm => ?_), sumB (l.take i), fun W11 hW11 => cell_at ((hW11.kk rfl).blk hb10 (fun h => h)) rfl, fun W11 hW11 => ?_⟩
      · simp only [List.mem_cons, List.not_mem_nil, or_false] at hmm
        rcases hmm with rfl | rfl
        · exact blk_neMap hbn1 hmb
        · exact blk_neMap hbn6 hmb
      have k11 : K0 w10 W11 := hW11.kk rfl
      have hb11 := k11.blk hb10 (fun h => h)
      refine ⟨cell_wr2 hb11 rfl, fun w12 hp => ?_⟩
      have n23 : n3 ≠ n2 := blk_neMap hb9 hmb
      have kw10 : K0 w w10 := Kp.fresh hpl9.k0 k10 (fun j hj e => by omega)
      have kw11 : K0 w W11 := kw10.trans k11
      have hbd := sumB_bd (l.take i) (fun x hx => (hok x (List.mem_of_mem_take hx)).by_)
      have hli : (l.take i).length = i := by rw [List.length_take]; omega
      have hbyy := oky.by_
      have hn1' := hW11.cells 0 rfl
      have hn6' := hW11.cells 1 rfl
      refine ⟨put_kept hp (fun m hmm => ?_), ⟨i + 1, p8, c8, by rw [inc64 (by omega)], hlt, ?_⟩, by rw [inc64 (by omega)]; simp only [Int.toNat_natCast]; omega⟩
      · simp only [List.mem_cons, List.not_mem_nil, or_false] at hmm
        rcases hmm with rfl | rfl
        · exact blk_ne hn1' hb11 rfl
        · exact blk_ne hn6' hb11 rfl
      refine ⟨?_, ?_, ?_, hpl8.art, put_k0 kw11 hp g3, g3, g2⟩
      · rw [hp.block hb11, htk, sumB_snoc, wr64 (by rw [hli] at hbd; omega) (by rw [hli] at hbd; omega)]
        rfl
      · have h1 := owns_kp hpl9.own k10 (fun k hk e => by subst e; exact own_notMap hpl9.own hmb hk)
        have h2 := owns_kp h1 k11 (fun _ _ h => h)
        exact owns_kp h2 hp.kp (fun k hk e => by subst e; exact own_not h2 hb11 rfl hk)
      · refine ⟨_, (hm10.kp k11 (fun h => h)).kp hp.kp (fun e => n23 e.symm), fun j => ?_⟩
        rw [aget_aset, htk, List.map_append]
        obtain ⟨m1, m2⟩ := hmi j
        refine ⟨fun hj => ?_, fun hj => ?_⟩
        · by_cases e : idI y.id = j
          · rw [if_pos e]
          · rw [if_neg e]
            refine m1 ?_
            rcases List.mem_append.1 hj with h | h
            · exact h
            · simp at h; exact absurd h.symm e
        · have h1 : ¬ idI y.id = j := fun e => hj (List.mem_append_right _ (by simp [e]))
          rw [if_neg h1]
          exact m2 fun h => hj (List.mem_append_left _ h)
  · have hi : i = l.length := by simp at hge; omega
    subst hi
    rw [List.take_length] at hpl
    have ho := hpl.own
    refine ⟨p', _, c', cell_at hpl.blk rfl, ?_⟩
    refine ⟨(esort_any (l.map (mkC L now)) p' c' w4 ho (by rw [List.length_map]; omega)).mono fun e w5 ⟨he, cs', hperm, hsrt, ho5, k5⟩ => ⟨he, ?_, n3, p', c', n2, cs', rfl, ?_, hperm, hsrt⟩⟩
    · exact .of_kp k5 (fun m hm => by
        simp at hm
        subst hm
        exact own_not ho (hL4.cells 0 rfl) rfl)
    · obtain ⟨ml, hm, hmi⟩ := hpl.map
      obtain ⟨es, cl, hmb⟩ := hpl.mapAt
      have hbl := k5.blk hpl.blk (own_not ho hpl.blk rfl)
      rw [← hperm.length_eq] at hbl
      exact ⟨hbl, ho5, ⟨ml, hm.kp k5 (own_notMap ho hmb), hmi⟩, fun z hz => hpl.art z (hperm.mem_iff.1 hz), Kp.fresh kw4 k5 (fun j hj e => by have := own_ge ho e; omega), g3, g2⟩

end Go.Proofs.YtmjanmffnblcoaaGreatDoor

/- The formulas of functions by the symbolic evaluator, and that each gives the call's contract. Written by a program (gen.py). No condition. -/
namespace Go.Proofs.YtmjanmffnblcoaaGreatDoor
set_option maxRecDepth 100000
set_option linter.unusedVariables false

def VC_eprot (b : Nat) (o : Nat) (id : Nat → Int) (dt : Int) (ar : Int) (gp : Option Addr) (gn : Nat) (gc : Nat) (by_ : Int) (ct : Int) (hp : Option Addr) (hn : Nat) (hc : Nat) (wd : Bool) (fx : Bool) (ov : Bool) (my : Bool) (w : World) (R : Ending → World → Prop) : Prop :=
 ∀ (n n_1 : Nat),
 ∃ (f : Nat → Int),
 ∃ (x : Int),
 ∃ (x_1 : Int),
 ∃ (p : Option Addr),
 ∃ (n_2 : Nat),
 ∃ (c : Nat),
 ∃ (x_2 : Int),
 ∃ (x_3 : Int),
 ∃ (p_1 : Option Addr),
 ∃ (n_3 : Nat),
 ∃ (c_1 : Nat),
 ∃ (x_4 : Bool),
 gimp (!fx)
 (∀ (W : World),
 Loc w.heap.size
 [Blk.mk n_1 103
 (arrI IntKind.u8 id 32 0 ++ [Value.int IntKind.i64 dt,
 Value.int IntKind.i64 ar, Value.slice gp gn gc, Value.int IntKind.i64 by_,
 Value.int IntKind.i64 ct, Value.slice hp hn hc, Value.bool wd, Value.bool fx, Value.bool ov,
 Value.bool my])
 2,
 Blk.mk n 79 [Value.pointer (some (Addr.mk b o none))] 2]
 w W →
 AtL W n_1 0
 (arrI IntKind.u8 f 32 0 ++ [Value.int IntKind.i64 x,
 Value.int IntKind.i64 x_1, Value.slice p n_2 c, Value.int IntKind.i64 x_2, Value.int IntKind.i64 x_3,
 Value.slice p_1 n_3 c_1, Value.bool x_4])) ∧
 ∀ (W : World),
 Loc w.heap.size
 [Blk.mk n_1 103
 (arrI IntKind.u8 id 32 0 ++ [Value.int IntKind.i64 dt,
 Value.int IntKind.i64 ar, Value.slice gp gn gc, Value.int IntKind.i64 by_, Value.int IntKind.i64 ct,
 Value.slice hp hn hc, Value.bool wd, Value.bool fx, Value.bool ov, Value.bool my])
 2,
 Blk.mk n 79 [Value.pointer (some (Addr.mk b o none))] 2]
 w W →
 bsp (!fx)
 (CallsS Tryz.prog 68
 #[Value.agg
 (arrI IntKind.u8 f 32 0 ++ [Value.int IntKind.i64 x,
 Value.int IntKind.i64 x_1, Value.slice p n_2 c, Value.int IntKind.i64 x_2,
 Value.int IntKind.i64 x_3, Value.slice p_1 n_3 c_1, Value.bool x_4]).toArray,
 Value.func (Fn.func 69) #[] #[Value.pointer (some (Addr.mk n 0 none))]]
 W fun (e : Ending) (w' : World) =>
 ∃ (x : Bool),
 e = Ending.returned (Value.bool x) ∧
 KeptL [n_1] W w' ∧ R (Ending.returned (Value.bool (false || x))) w')
 (KeptL [n_1] W W ∧ R (Ending.returned (Value.bool true)) W)
theorem vc_eprot (b : Nat) (o : Nat) (id : Nat → Int) (dt : Int) (ar : Int) (gp : Option Addr) (gn : Nat) (gc : Nat) (by_ : Int) (ct : Int) (hp : Option Addr) (hn : Nat) (hc : Nat) (wd : Bool) (fx : Bool) (ov : Bool) (my : Bool) (w : World) (R : Ending → World → Prop) (h : VC_eprot b o id dt ar gp gn gc by_ ct hp hn hc wd fx ov my w R) : Calls Tryz.prog 51 ([Value.pointer
    (some { block := b, off := o }),
  Value.agg
    (arrI IntKind.u8 id 32 0 ++
        [Value.int IntKind.i64 dt, Value.int IntKind.i64 ar, Value.slice gp gn gc, Value.int IntKind.i64 by_,
          Value.int IntKind.i64 ct, Value.slice hp hn hc, Value.bool wd, Value.bool fx, Value.bool ov,
          Value.bool my]).toArray] : List Value).toArray w R := by
  have e : execR2 { P := Tryz.prog, loops := [], pur := pur2, tails := [], joins := [], boxes := [] } Tryz.f51.results.toList R (Tryz.f51.body.getD .skip) (initF [Value.pointer
    (some { block := b, off := o }),
  Value.agg
    (arrI IntKind.u8 id 32 0 ++
        [Value.int IntKind.i64 dt, Value.int IntKind.i64 ar, Value.slice gp gn gc, Value.int IntKind.i64 by_,
          Value.int IntKind.i64 ct, Value.slice hp hn hc, Value.bool wd, Value.bool fx, Value.bool ov,
          Value.bool
            my]).toArray] (Tryz.f51.ntmps - ([Value.pointer (some { block := b, off := o }),
  Value.agg
    (arrI IntKind.u8 id 32 0 ++
        [Value.int IntKind.i64 dt, Value.int IntKind.i64 ar, Value.slice gp gn gc, Value.int IntKind.i64 by_,
          Value.int IntKind.i64 ct, Value.slice hp hn hc, Value.bool wd, Value.bool fx, Value.bool ov,
          Value.bool
            my]).toArray] : List Value).length)) w = VC_eprot b o id dt ar gp gn gc by_ ct hp hn hc wd fx ov my w R := by kernel_rfl
  have hb : Tryz.f51.body = some (Tryz.f51.body.getD .skip) := by kernel_rfl
  exact calls_of_exec2' (P := Tryz.prog) (fn := Tryz.f51) (c := Tryz.f51.body.getD .skip) (args := [Value.pointer
    (some { block := b, off := o }),
  Value.agg
    (arrI IntKind.u8 id 32 0 ++
        [Value.int IntKind.i64 dt, Value.int IntKind.i64 ar, Value.slice gp gn gc, Value.int IntKind.i64 by_,
          Value.int IntKind.i64 ct, Value.slice hp hn hc, Value.bool wd, Value.bool fx, Value.bool ov,
          Value.bool my]).toArray]) (w := w) (R := R) pur2_ok Tryz.func51 hb e h

def VC_eprot1 (id : Nat → Int) (b : Nat) (o : Nat) (w : World) (R : Ending → World → Prop) : Prop :=
 ∀ (n : Nat),
 ∃ (x : Option Addr),
 (∀ (W : World),
 Loc w.heap.size
 [Blk.mk n 42
 (arrI IntKind.u8 id 32 0)
 2]
 w W →
 W.cell? (Addr.mk b o none) = some (Value.pointer x)) ∧
 nn true x fun (b o : Nat) =>
 ∃ (x : Option Nat),
 (∀ (W : World),
 Loc w.heap.size
 [Blk.mk n 42
 (arrI IntKind.u8 id 32 0)
 2]
 w W →
 W.cell? (Addr.mk b (o + 1) none) = some (Value.map x)) ∧
 ∃ (x_1 : Bool),
 (∀ (W : World),
 Loc w.heap.size
 [Blk.mk n 42
 (arrI IntKind.u8 id 32 0)
 2]
 w W →
 LookP Tryz.prog 97 (Value.map x)
 (Value.agg
 (arrI IntKind.u8 id 32 0).toArray)
 false (Value.bool x_1) W) ∧
 ∀ (W : World),
 Loc w.heap.size
 [Blk.mk n 42
 (arrI IntKind.u8 id 32 0)
 2]
 w W →
 R (Ending.returned (Value.bool x_1)) W
theorem vc_eprot1 (id : Nat → Int) (b : Nat) (o : Nat) (w : World) (R : Ending → World → Prop) (h : VC_eprot1 id b o w R) : Calls Tryz.prog 69 ([Value.agg
    (arrI IntKind.u8 id 32 0).toArray,
  Value.pointer (some { block := b, off := o })] : List Value).toArray w R := by
  have e : execR2 { P := Tryz.prog, loops := [], pur := pur2, tails := [], joins := [], boxes := [] } Tryz.f69.results.toList R (Tryz.f69.body.getD .skip) (initF [Value.agg
    (arrI IntKind.u8 id 32 0).toArray,
  Value.pointer
    (some
      { block := b,
        off :=
          o })] (Tryz.f69.ntmps - ([Value.agg (arrI IntKind.u8 id 32 0).toArray,
  Value.pointer (some { block := b, off := o })] : List Value).length)) w = VC_eprot1 id b o w R := by kernel_rfl
  have hb : Tryz.f69.body = some (Tryz.f69.body.getD .skip) := by kernel_rfl
  exact calls_of_exec2' (P := Tryz.prog) (fn := Tryz.f69) (c := Tryz.f69.body.getD .skip) (args := [Value.agg
    (arrI IntKind.u8 id 32 0).toArray,
  Value.pointer (some { block := b, off := o })]) (w := w) (R := R) pur2_ok Tryz.func69 hb e h

def VC_estep (b : Nat) (o : Nat) (w : World) (R : Ending → World → Prop) : Prop :=
 ∀ (n n_1 : Nat) (W : World),
 Loc w.heap.size
 [Blk.mk n_1 53
 [Value.int IntKind.u8 0, Value.int IntKind.u8 0, Value.int IntKind.u8 0, Value.int IntKind.u8 0,
 Value.int IntKind.u8 0, Value.int IntKind.u8 0, Value.int IntKind.u8 0, Value.int IntKind.u8 0,
 Value.int IntKind.u8 0, Value.int IntKind.u8 0, Value.int IntKind.u8 0, Value.int IntKind.u8 0,
 Value.int IntKind.u8 0, Value.int IntKind.u8 0, Value.int IntKind.u8 0, Value.int IntKind.u8 0,
 Value.int IntKind.u8 0, Value.int IntKind.u8 0, Value.int IntKind.u8 0, Value.int IntKind.u8 0,
 Value.int IntKind.u8 0, Value.int IntKind.u8 0, Value.int IntKind.u8 0, Value.int IntKind.u8 0,
 Value.int IntKind.u8 0, Value.int IntKind.u8 0, Value.int IntKind.u8 0, Value.int IntKind.u8 0,
 Value.int IntKind.u8 0, Value.int IntKind.u8 0, Value.int IntKind.u8 0, Value.int IntKind.u8 0,
 Value.int IntKind.i64 0]
 2,
 Blk.mk n 79 [Value.pointer (some (Addr.mk b o none))] 2]
 w W →
 ∀ (n_2 n_3 : Nat) (W_1 : World),
 Loc w.heap.size
 [Blk.mk n_3 110 [Value.slice (some (Addr.mk n_2 0 none)) 4 4] (wrM 2),
 Blk.mk n_2 109
 [Value.nilFunc, Value.func (Fn.func 46) #[] #[], Value.func (Fn.func 47) #[] #[],
 Value.func (Fn.func 48) #[] #[Value.pointer (some (Addr.mk n 0 none))]]
 2,
 Blk.mk n_1 53
 [Value.int IntKind.u8 0, Value.int IntKind.u8 0, Value.int IntKind.u8 0, Value.int IntKind.u8 0,
 Value.int IntKind.u8 0, Value.int IntKind.u8 0, Value.int IntKind.u8 0, Value.int IntKind.u8 0,
 Value.int IntKind.u8 0, Value.int IntKind.u8 0, Value.int IntKind.u8 0, Value.int IntKind.u8 0,
 Value.int IntKind.u8 0, Value.int IntKind.u8 0, Value.int IntKind.u8 0, Value.int IntKind.u8 0,
 Value.int IntKind.u8 0, Value.int IntKind.u8 0, Value.int IntKind.u8 0, Value.int IntKind.u8 0,
 Value.int IntKind.u8 0, Value.int IntKind.u8 0, Value.int IntKind.u8 0, Value.int IntKind.u8 0,
 Value.int IntKind.u8 0, Value.int IntKind.u8 0, Value.int IntKind.u8 0, Value.int IntKind.u8 0,
 Value.int IntKind.u8 0, Value.int IntKind.u8 0, Value.int IntKind.u8 0, Value.int IntKind.u8 0,
 Value.int IntKind.i64 0]
 0]
 W W_1 →
 ∀ (n_4 : Nat) (W : World),
 Loc w.heap.size
 [Blk.mk n_4 3 [Value.int IntKind.i64 1] (wrM 2), Blk.mk n_3 110 [Value.slice (some (Addr.mk n_2 0 none)) 4 4] 0,
 Blk.mk n_1 53
 [Value.int IntKind.u8 0, Value.int IntKind.u8 0, Value.int IntKind.u8 0, Value.int IntKind.u8 0,
 Value.int IntKind.u8 0, Value.int IntKind.u8 0, Value.int IntKind.u8 0, Value.int IntKind.u8 0,
 Value.int IntKind.u8 0, Value.int IntKind.u8 0, Value.int IntKind.u8 0, Value.int IntKind.u8 0,
 Value.int IntKind.u8 0, Value.int IntKind.u8 0, Value.int IntKind.u8 0, Value.int IntKind.u8 0,
 Value.int IntKind.u8 0, Value.int IntKind.u8 0, Value.int IntKind.u8 0, Value.int IntKind.u8 0,
 Value.int IntKind.u8 0, Value.int IntKind.u8 0, Value.int IntKind.u8 0, Value.int IntKind.u8 0,
 Value.int IntKind.u8 0, Value.int IntKind.u8 0, Value.int IntKind.u8 0, Value.int IntKind.u8 0,
 Value.int IntKind.u8 0, Value.int IntKind.u8 0, Value.int IntKind.u8 0, Value.int IntKind.u8 0,
 Value.int IntKind.i64 0]
 0]
 W_1 W →
 ∃ (I : List Value → World → Prop),
 ∃ (m : List Value → World → Nat),
 I [Value.pointer (some (Addr.mk n_4 0 none))] W ∧
 ∀ (x : Option Addr) (w' : World),
 I [Value.pointer x] w' →
 nn true x fun (b o : Nat) =>
 ∃ (x_1 : Int),
 w'.cell? (Addr.mk b o none) = some (Value.int IntKind.i64 x_1) ∧
 bsp (decide (x_1 ≤ 3))
 (∃ (x_2 : Option Addr),
 w'.cell? (Addr.mk n 0 none) = some (Value.pointer x_2) ∧
 nn true x_2 fun (b o : Nat) =>
 ∃ (p : Option Addr),
 ∃ (n_5 : Nat),
 ∃ (c : Nat),
 w'.cell? (Addr.mk b o none) = some (Value.slice p n_5 c) ∧
 CallsS Tryz.prog 49
 #[Value.slice p n_5 c,
 Value.func (Fn.func 50) #[]
 #[Value.pointer (some (Addr.mk n_3 0 none)), Value.pointer x,
 Value.pointer (some (Addr.mk n 0 none))]]
 w' fun (e : Ending) (w'_1 : World) =>
 ∃ (x_3 : Int),
 e = Ending.returned (Value.int IntKind.i64 x_3) ∧
 KeptL [] w' w'_1 ∧
 bsp (decide (x_3 < 0))
 (nn true x fun (b o : Nat) =>
 ∃ (x_4 : Int),
 w'_1.cell? (Addr.mk b o none) = some (Value.int IntKind.i64 x_4) ∧
 ∀ (n : Nat) (W : World),
 Loc w.heap.size
 [Blk.mk n 3 [Value.int IntKind.i64 (IntKind.i64.wrap (x_4 + 1))] (wrM (wrM 2))] w'_1
 W →
 I [Value.pointer (some (Addr.mk n 0 none))] W ∧
 m [Value.pointer (some (Addr.mk n 0 none))] W < m [Value.pointer x] w')
 (∃ (x_4 : Option Addr),
 w'_1.cell? (Addr.mk n 0 none) = some (Value.pointer x_4) ∧
 nn true x_4 fun (b o : Nat) =>
 ∃ (p : Option Addr),
 ∃ (n_6 : Nat),
 ∃ (c : Nat),
 w'_1.cell? (Addr.mk b o none) = some (Value.slice p n_6 c) ∧
 nn true p fun (b o : Nat) =>
 (0 ≤ x_3 ∧ x_3 < (↑n_6 : Int)) ∧
 ∃ (f : Nat → Int),
 ∃ (x_5 : Int),
 ∃ (x_6 : Int),
 ∃ (p : Option Addr),
 ∃ (n_7 : Nat),
 ∃ (c : Nat),
 ∃ (x_7 : Int),
 ∃ (x_8 : Int),
 ∃ (p_1 : Option Addr),
 ∃ (n_8 : Nat),
 ∃ (c_1 : Nat),
 ∃ (x_9 : Bool),
 ∃ (x_10 : Bool),
 ∃ (x_11 : Bool),
 ∃ (x_12 : Bool),
 AtL w'_1 b (o + x_3.toNat * 42)
 (arrI IntKind.u8 f 32 0 ++ [Value.int IntKind.i64 x_5, Value.int IntKind.i64 x_6,
 Value.slice p n_7 c, Value.int IntKind.i64 x_7,
 Value.int IntKind.i64 x_8, Value.slice p_1 n_8 c_1,
 Value.bool x_9, Value.bool x_10, Value.bool x_11,
 Value.bool x_12]) ∧
 ∀ (n_9 : Nat) (W : World),
 Loc w.heap.size
 [Blk.mk n_9 103
 (arrI IntKind.u8 f 32 0 ++ [Value.int IntKind.i64 x_5, Value.int IntKind.i64 x_6,
 Value.slice p n_7 c, Value.int IntKind.i64 x_7,
 Value.int IntKind.i64 x_8, Value.slice p_1 n_8 c_1,
 Value.bool x_9, Value.bool x_10, Value.bool x_11,
 Value.bool x_12])
 (wrM 2)]
 w'_1 W →
 ∃ (S : World → Prop),
 S W ∧
 ∃ (x_13 : Option Addr),
 (∀ (w' : World),
 S w' →
 w'.cell? (Addr.mk n 0 none) = some (Value.pointer x_13)) ∧
 ∃ (x_14 : Option Addr),
 (∀ (w' : World),
 S w' →
 w'.cell? (Addr.mk n 0 none) = some (Value.pointer x_14)) ∧
 nn true x_14 fun (b o : Nat) =>
 ∃ (p_2 : Option Addr),
 ∃ (n_10 : Nat),
 ∃ (c_2 : Nat),
 (∀ (w' : World),
 S w' →
 w'.cell? (Addr.mk b o none) =
 some (Value.slice p_2 n_10 c_2)) ∧
 CallsS Tryz.prog 52
 #[Value.slice p_2 n_10 c_2, Value.int IntKind.i64 x_3,
 Value.int IntKind.i64 (IntKind.i64.wrap (x_3 + 1))]
 W fun (e : Ending) (w' : World) =>
 ∃ (p_3 : Option Addr),
 ∃ (n_11 : Nat),
 ∃ (c_3 : Nat),
 e = Ending.returned (Value.slice p_3 n_11 c_3) ∧
 S w' ∧
 nn true x_13 fun (b o : Nat) =>
 ((∃ (u : Value),
 w'.cell? (Addr.mk b o none) = some u) ∧
 w'.frozen? (Addr.mk b o none) = false) ∧
 ∀ (w1 : World),
 PutB w' b o [Value.slice p_3 n_11 c_3] w1 →
 KeptL [n_9] W w1 ∧
 ∃ (x_15 : Option Addr),
 (∀ (W : World),
 Loc w.heap.size
 [Blk.mk n_9 103
 (arrI IntKind.u8 f 32 0 ++ [Value.int IntKind.i64 x_5,
 Value.int IntKind.i64 x_6,
 Value.slice p n_7 c,
 Value.int IntKind.i64 x_7,
 Value.int IntKind.i64 x_8,
 Value.slice p_1 n_8 c_1,
 Value.bool x_9, Value.bool x_10,
 Value.bool x_11, Value.bool x_12])
 0]
 w1 W →
 W.cell? (Addr.mk n 0 none) =
 some (Value.pointer x_15)) ∧
 nn true x_15 fun (b o : Nat) =>
 ∃ (x_16 : Option Nat),
 (∀ (W : World),
 Loc w.heap.size
 [Blk.mk n_9 103
 (arrI IntKind.u8 f 32 0 ++ [Value.int IntKind.i64 x_5,
 Value.int IntKind.i64 x_6,
 Value.slice p n_7 c,
 Value.int IntKind.i64 x_7,
 Value.int IntKind.i64 x_8,
 Value.slice p_1 n_8 c_1,
 Value.bool x_9, Value.bool x_10,
 Value.bool x_11, Value.bool x_12])
 0]
 w1 W →
 W.cell? (Addr.mk b (o + 1) none) =
 some (Value.map x_16)) ∧
 ∀ (W : World),
 Loc w.heap.size
 [Blk.mk n_9 103
 (arrI IntKind.u8 f 32 0 ++ [Value.int IntKind.i64 x_5,
 Value.int IntKind.i64 x_6,
 Value.slice p n_7 c,
 Value.int IntKind.i64 x_7,
 Value.int IntKind.i64 x_8,
 Value.slice p_1 n_8 c_1,
 Value.bool x_9, Value.bool x_10,
 Value.bool x_11, Value.bool x_12])
 0]
 w1 W →
 ∃ (w1 : World),
 BltP Tryz.prog Builtin.delete
 [97, 42]
 [Value.map x_16,
 Value.agg
 (arrI IntKind.u8 f 32 0).toArray]
 W w1 ∧
 KeptL [n_9] W w1 ∧
 ∃ (x_17 : Option Addr),
 (∀ (W : World),
 Loc w.heap.size
 [Blk.mk n_9 103
 (arrI IntKind.u8 f 32 0 ++ [Value.int IntKind.i64 x_5,
 Value.int IntKind.i64 x_6,
 Value.slice p n_7 c,
 Value.int IntKind.i64 x_7,
 Value.int IntKind.i64 x_8,
 Value.slice p_1 n_8 c_1,
 Value.bool x_9,
 Value.bool x_10,
 Value.bool x_11,
 Value.bool x_12])
 0]
 w1 W →
 W.cell? (Addr.mk n 0 none) =
 some (Value.pointer x_17)) ∧
 nn true x_17 fun (b o : Nat) =>
 ∃ (x_18 : Int),
 (∀ (W : World),
 Loc w.heap.size
 [Blk.mk n_9 103
 (arrI IntKind.u8 f 32 0 ++ [Value.int IntKind.i64
 x_5,
 Value.int IntKind.i64
 x_6,
 Value.slice p n_7 c,
 Value.int IntKind.i64
 x_7,
 Value.int IntKind.i64
 x_8,
 Value.slice p_1 n_8
 c_1,
 Value.bool x_9,
 Value.bool x_10,
 Value.bool x_11,
 Value.bool x_12])
 0]
 w1 W →
 W.cell?
 (Addr.mk b (o + 2)
 none) =
 some
 (Value.int IntKind.i64
 x_18)) ∧
 nn true x_17
 fun (b o : Nat) =>
 ∀ (W : World),
 Loc w.heap.size
 [Blk.mk n_9 103
 (arrI IntKind.u8 f 32 0 ++ [Value.int IntKind.i64
 x_5,
 Value.int IntKind.i64
 x_6,
 Value.slice p n_7 c,
 Value.int IntKind.i64
 x_7,
 Value.int IntKind.i64
 x_8,
 Value.slice p_1 n_8
 c_1,
 Value.bool x_9,
 Value.bool x_10,
 Value.bool x_11,
 Value.bool x_12])
 0]
 w1 W →
 ((∃ (u : Value),
 W.cell?
 (Addr.mk b (o + 2)
 none) =
 some u) ∧
 W.frozen?
 (Addr.mk b (o + 2)
 none) =
 false) ∧
 ∀ (w1 : World),
 PutB W b (o + 2)
 [Value.int IntKind.i64
 (IntKind.i64.wrap
 (x_18 - x_7))]
 w1 →
 KeptL [n_9] W w1 ∧
 nn true x
 fun (b o : Nat) =>
 ∃ (x : Int),
 w1.cell?
 (Addr.mk b o
 none) =
 some
 (Value.int
 IntKind.i64 x) ∧
 WrL w1 n_1 0 33 ∧
 ∀ (w1_1 : World),
 PutB w1 n_1 0
 (arrI IntKind.u8 f 32 0 ++ [Value.int
 IntKind.i64
 x])
 w1_1 →
 KeptL [n_9] w1
 w1_1 ∧
 ∃ (f :
 Nat → Int),
 ∃ (x : Int),
 AtL w1_1 n_1
 0
 (arrI IntKind.u8 f 32 0 ++ [Value.int
 IntKind.i64
 x]) ∧
 R
 (Ending.returned
 (Value.tuple
 #[Value.agg
 (arrI IntKind.u8 f 32 0 ++ [Value.int
 IntKind.i64
 x]).toArray,
 Value.bool
 true]))
 w1_1))
 (WrL w' n_1 0 33 ∧
 ∀ (w1 : World),
 PutB w' n_1 0
 [Value.int IntKind.u8 0, Value.int IntKind.u8 0, Value.int IntKind.u8 0, Value.int IntKind.u8 0,
 Value.int IntKind.u8 0, Value.int IntKind.u8 0, Value.int IntKind.u8 0, Value.int IntKind.u8 0,
 Value.int IntKind.u8 0, Value.int IntKind.u8 0, Value.int IntKind.u8 0, Value.int IntKind.u8 0,
 Value.int IntKind.u8 0, Value.int IntKind.u8 0, Value.int IntKind.u8 0, Value.int IntKind.u8 0,
 Value.int IntKind.u8 0, Value.int IntKind.u8 0, Value.int IntKind.u8 0, Value.int IntKind.u8 0,
 Value.int IntKind.u8 0, Value.int IntKind.u8 0, Value.int IntKind.u8 0, Value.int IntKind.u8 0,
 Value.int IntKind.u8 0, Value.int IntKind.u8 0, Value.int IntKind.u8 0, Value.int IntKind.u8 0,
 Value.int IntKind.u8 0, Value.int IntKind.u8 0, Value.int IntKind.u8 0, Value.int IntKind.u8 0,
 Value.int IntKind.i64 0]
 w1 →
 KeptL [] w' w1 ∧
 ∃ (f : Nat → Int),
 ∃ (x : Int),
 AtL w1 n_1 0
 (arrI IntKind.u8 f 32 0 ++ [Value.int IntKind.i64 x]) ∧
 R
 (Ending.returned
 (Value.tuple
 #[Value.agg
 (arrI IntKind.u8 f 32 0 ++ [Value.int IntKind.i64 x]).toArray,
 Value.bool false]))
 w1)
theorem vc_estep (b : Nat) (o : Nat) (w : World) (R : Ending → World → Prop) (h : VC_estep b o w R) : Calls Tryz.prog 29 ([Value.pointer
    (some { block := b, off := o })] : List Value).toArray w R := by
  have e : execR2 { P := Tryz.prog, loops := [(3, [(5, .ptr)])], pur := pur2, tails := [(8, 8), (9, 7), (10, 10)], joins := [], boxes := [] } Tryz.f29.results.toList R (Tryz.f29.body.getD .skip) (initF [Value.pointer
    (some
      { block := b,
        off :=
          o })] (Tryz.f29.ntmps - ([Value.pointer
    (some { block := b, off := o })] : List Value).length)) w = VC_estep b o w R := by kernel_rfl
  have hb : Tryz.f29.body = some (Tryz.f29.body.getD .skip) := by kernel_rfl
  exact calls_of_exec2' (P := Tryz.prog) (fn := Tryz.f29) (c := Tryz.f29.body.getD .skip) (args := [Value.pointer
    (some { block := b, off := o })]) (w := w) (R := R) pur2_ok Tryz.func29 hb e h

def VC_estep1 (id : Nat → Int) (dt : Int) (ar : Int) (gp : Option Addr) (gn : Nat) (gc : Nat) (by_ : Int) (ct : Int) (hp : Option Addr) (hn : Nat) (hc : Nat) (wd : Bool) (fx : Bool) (ov : Bool) (my : Bool) (w : World) (R : Ending → World → Prop) : Prop :=
 ∀ (n : Nat),
 ∃ (x : Int),
 gimp wd
 (∀ (W : World),
 Loc w.heap.size
 [Blk.mk n 103
 (arrI IntKind.u8 id 32 0 ++ [Value.int IntKind.i64 dt,
 Value.int IntKind.i64 ar, Value.slice gp gn gc, Value.int IntKind.i64 by_, Value.int IntKind.i64 ct,
 Value.slice hp hn hc, Value.bool wd, Value.bool fx, Value.bool ov, Value.bool my])
 2]
 w W →
 W.cell? (Addr.mk n (0 + 36) none) = some (Value.int IntKind.i64 x)) ∧
 ∀ (W : World),
 Loc w.heap.size
 [Blk.mk n 103
 (arrI IntKind.u8 id 32 0 ++ [Value.int IntKind.i64 dt, Value.int IntKind.i64 ar,
 Value.slice gp gn gc, Value.int IntKind.i64 by_, Value.int IntKind.i64 ct, Value.slice hp hn hc, Value.bool wd,
 Value.bool fx, Value.bool ov, Value.bool my])
 2]
 w W →
 R (Ending.returned (Value.bool (wd && x == 0))) W
theorem vc_estep1 (id : Nat → Int) (dt : Int) (ar : Int) (gp : Option Addr) (gn : Nat) (gc : Nat) (by_ : Int) (ct : Int) (hp : Option Addr) (hn : Nat) (hc : Nat) (wd : Bool) (fx : Bool) (ov : Bool) (my : Bool) (w : World) (R : Ending → World → Prop) (h : VC_estep1 id dt ar gp gn gc by_ ct hp hn hc wd fx ov my w R) : Calls Tryz.prog 46 ([Value.agg
    (arrI IntKind.u8 id 32 0 ++
        [Value.int IntKind.i64 dt, Value.int IntKind.i64 ar, Value.slice gp gn gc, Value.int IntKind.i64 by_,
          Value.int IntKind.i64 ct, Value.slice hp hn hc, Value.bool wd, Value.bool fx, Value.bool ov,
          Value.bool my]).toArray] : List Value).toArray w R := by
  have e : execR2 { P := Tryz.prog, loops := [], pur := pur2, tails := [], joins := [], boxes := [] } Tryz.f46.results.toList R (Tryz.f46.body.getD .skip) (initF [Value.agg
    (arrI IntKind.u8 id 32 0 ++
        [Value.int IntKind.i64 dt, Value.int IntKind.i64 ar, Value.slice gp gn gc, Value.int IntKind.i64 by_,
          Value.int IntKind.i64 ct, Value.slice hp hn hc, Value.bool wd, Value.bool fx, Value.bool ov,
          Value.bool
            my]).toArray] (Tryz.f46.ntmps - ([Value.agg
    (arrI IntKind.u8 id 32 0 ++
        [Value.int IntKind.i64 dt, Value.int IntKind.i64 ar, Value.slice gp gn gc, Value.int IntKind.i64 by_,
          Value.int IntKind.i64 ct, Value.slice hp hn hc, Value.bool wd, Value.bool fx, Value.bool ov,
          Value.bool
            my]).toArray] : List Value).length)) w = VC_estep1 id dt ar gp gn gc by_ ct hp hn hc wd fx ov my w R := by kernel_rfl
  have hb : Tryz.f46.body = some (Tryz.f46.body.getD .skip) := by kernel_rfl
  exact calls_of_exec2' (P := Tryz.prog) (fn := Tryz.f46) (c := Tryz.f46.body.getD .skip) (args := [Value.agg
    (arrI IntKind.u8 id 32 0 ++
        [Value.int IntKind.i64 dt, Value.int IntKind.i64 ar, Value.slice gp gn gc, Value.int IntKind.i64 by_,
          Value.int IntKind.i64 ct, Value.slice hp hn hc, Value.bool wd, Value.bool fx, Value.bool ov,
          Value.bool my]).toArray]) (w := w) (R := R) pur2_ok Tryz.func46 hb e h

def VC_estep2 (id : Nat → Int) (dt : Int) (ar : Int) (gp : Option Addr) (gn : Nat) (gc : Nat) (by_ : Int) (ct : Int) (hp : Option Addr) (hn : Nat) (hc : Nat) (wd : Bool) (fx : Bool) (ov : Bool) (my : Bool) (w : World) (R : Ending → World → Prop) : Prop :=
 ∀ (n : Nat) (W : World),
 Loc w.heap.size
 [Blk.mk n 103
 (arrI IntKind.u8 id 32 0 ++ [Value.int IntKind.i64 dt, Value.int IntKind.i64 ar,
 Value.slice gp gn gc, Value.int IntKind.i64 by_, Value.int IntKind.i64 ct, Value.slice hp hn hc, Value.bool wd,
 Value.bool fx, Value.bool ov, Value.bool my])
 2]
 w W →
 R (Ending.returned (Value.bool ov)) W
theorem vc_estep2 (id : Nat → Int) (dt : Int) (ar : Int) (gp : Option Addr) (gn : Nat) (gc : Nat) (by_ : Int) (ct : Int) (hp : Option Addr) (hn : Nat) (hc : Nat) (wd : Bool) (fx : Bool) (ov : Bool) (my : Bool) (w : World) (R : Ending → World → Prop) (h : VC_estep2 id dt ar gp gn gc by_ ct hp hn hc wd fx ov my w R) : Calls Tryz.prog 47 ([Value.agg
    (arrI IntKind.u8 id 32 0 ++
        [Value.int IntKind.i64 dt, Value.int IntKind.i64 ar, Value.slice gp gn gc, Value.int IntKind.i64 by_,
          Value.int IntKind.i64 ct, Value.slice hp hn hc, Value.bool wd, Value.bool fx, Value.bool ov,
          Value.bool my]).toArray] : List Value).toArray w R := by
  have e : execR2 { P := Tryz.prog, loops := [], pur := pur2, tails := [], joins := [], boxes := [] } Tryz.f47.results.toList R (Tryz.f47.body.getD .skip) (initF [Value.agg
    (arrI IntKind.u8 id 32 0 ++
        [Value.int IntKind.i64 dt, Value.int IntKind.i64 ar, Value.slice gp gn gc, Value.int IntKind.i64 by_,
          Value.int IntKind.i64 ct, Value.slice hp hn hc, Value.bool wd, Value.bool fx, Value.bool ov,
          Value.bool
            my]).toArray] (Tryz.f47.ntmps - ([Value.agg
    (arrI IntKind.u8 id 32 0 ++
        [Value.int IntKind.i64 dt, Value.int IntKind.i64 ar, Value.slice gp gn gc, Value.int IntKind.i64 by_,
          Value.int IntKind.i64 ct, Value.slice hp hn hc, Value.bool wd, Value.bool fx, Value.bool ov,
          Value.bool
            my]).toArray] : List Value).length)) w = VC_estep2 id dt ar gp gn gc by_ ct hp hn hc wd fx ov my w R := by kernel_rfl
  have hb : Tryz.f47.body = some (Tryz.f47.body.getD .skip) := by kernel_rfl
  exact calls_of_exec2' (P := Tryz.prog) (fn := Tryz.f47) (c := Tryz.f47.body.getD .skip) (args := [Value.agg
    (arrI IntKind.u8 id 32 0 ++
        [Value.int IntKind.i64 dt, Value.int IntKind.i64 ar, Value.slice gp gn gc, Value.int IntKind.i64 by_,
          Value.int IntKind.i64 ct, Value.slice hp hn hc, Value.bool wd, Value.bool fx, Value.bool ov,
          Value.bool my]).toArray]) (w := w) (R := R) pur2_ok Tryz.func47 hb e h

def VC_estep3 (id : Nat → Int) (dt : Int) (ar : Int) (gp : Option Addr) (gn : Nat) (gc : Nat) (by_ : Int) (ct : Int) (hp : Option Addr) (hn : Nat) (hc : Nat) (wd : Bool) (fx : Bool) (ov : Bool) (my : Bool) (b : Nat) (o : Nat) (w : World) (R : Ending → World → Prop) : Prop :=
 ∀ (n : Nat),
 ∃ (x : Option Addr),
 (∀ (W : World),
 Loc w.heap.size
 [Blk.mk n 103
 (arrI IntKind.u8 id 32 0 ++ [Value.int IntKind.i64 dt, Value.int IntKind.i64 ar,
 Value.slice gp gn gc, Value.int IntKind.i64 by_, Value.int IntKind.i64 ct, Value.slice hp hn hc, Value.bool wd,
 Value.bool fx, Value.bool ov, Value.bool my])
 2]
 w W →
 W.cell? (Addr.mk b o none) = some (Value.pointer x)) ∧
 nn true x fun (b_1 o_1 : Nat) =>
 ∃ (x : Int),
 (∀ (W : World),
 Loc w.heap.size
 [Blk.mk n 103
 (arrI IntKind.u8 id 32 0 ++ [Value.int IntKind.i64 dt,
 Value.int IntKind.i64 ar, Value.slice gp gn gc, Value.int IntKind.i64 by_, Value.int IntKind.i64 ct,
 Value.slice hp hn hc, Value.bool wd, Value.bool fx, Value.bool ov, Value.bool my])
 2]
 w W →
 W.cell? (Addr.mk b_1 (o_1 + 2) none) = some (Value.int IntKind.i64 x)) ∧
 ∃ (x_1 : Option Addr),
 (∀ (W : World),
 Loc w.heap.size
 [Blk.mk n 103
 (arrI IntKind.u8 id 32 0 ++ [Value.int IntKind.i64 dt,
 Value.int IntKind.i64 ar, Value.slice gp gn gc, Value.int IntKind.i64 by_, Value.int IntKind.i64 ct,
 Value.slice hp hn hc, Value.bool wd, Value.bool fx, Value.bool ov, Value.bool my])
 2]
 w W →
 W.cell? (Addr.mk b o none) = some (Value.pointer x_1)) ∧
 nn true x_1 fun (b o : Nat) =>
 ∃ (x_2 : Int),
 (∀ (W : World),
 Loc w.heap.size
 [Blk.mk n 103
 (arrI IntKind.u8 id 32 0 ++ [Value.int IntKind.i64 dt,
 Value.int IntKind.i64 ar, Value.slice gp gn gc, Value.int IntKind.i64 by_, Value.int IntKind.i64 ct,
 Value.slice hp hn hc, Value.bool wd, Value.bool fx, Value.bool ov, Value.bool my])
 2]
 w W →
 W.cell? (Addr.mk b (o + 3) none) = some (Value.int IntKind.i64 x_2)) ∧
 ∃ (x_3 : Bool),
 gimp (decide (x > x_2))
 (∀ (W : World),
 Loc w.heap.size
 [Blk.mk n 103
 (arrI IntKind.u8 id 32 0 ++ [Value.int IntKind.i64 dt,
 Value.int IntKind.i64 ar, Value.slice gp gn gc, Value.int IntKind.i64 by_, Value.int IntKind.i64 ct,
 Value.slice hp hn hc, Value.bool wd, Value.bool fx, Value.bool ov, Value.bool my])
 2]
 w W →
 W.cell? (Addr.mk n (0 + 41) none) = some (Value.bool x_3)) ∧
 ∀ (W : World),
 Loc w.heap.size
 [Blk.mk n 103
 (arrI IntKind.u8 id 32 0 ++ [Value.int IntKind.i64 dt,
 Value.int IntKind.i64 ar, Value.slice gp gn gc, Value.int IntKind.i64 by_, Value.int IntKind.i64 ct,
 Value.slice hp hn hc, Value.bool wd, Value.bool fx, Value.bool ov, Value.bool my])
 2]
 w W →
 R (Ending.returned (Value.bool (decide (x > x_2) && x_3))) W
theorem vc_estep3 (id : Nat → Int) (dt : Int) (ar : Int) (gp : Option Addr) (gn : Nat) (gc : Nat) (by_ : Int) (ct : Int) (hp : Option Addr) (hn : Nat) (hc : Nat) (wd : Bool) (fx : Bool) (ov : Bool) (my : Bool) (b : Nat) (o : Nat) (w : World) (R : Ending → World → Prop) (h : VC_estep3 id dt ar gp gn gc by_ ct hp hn hc wd fx ov my b o w R) : Calls Tryz.prog 48 ([Value.agg
    (arrI IntKind.u8 id 32 0 ++
        [Value.int IntKind.i64 dt, Value.int IntKind.i64 ar, Value.slice gp gn gc, Value.int IntKind.i64 by_,
          Value.int IntKind.i64 ct, Value.slice hp hn hc, Value.bool wd, Value.bool fx, Value.bool ov,
          Value.bool my]).toArray,
  Value.pointer (some { block := b, off := o })] : List Value).toArray w R := by
  have e : execR2 { P := Tryz.prog, loops := [], pur := pur2, tails := [], joins := [], boxes := [] } Tryz.f48.results.toList R (Tryz.f48.body.getD .skip) (initF [Value.agg
    (arrI IntKind.u8 id 32 0 ++
        [Value.int IntKind.i64 dt, Value.int IntKind.i64 ar, Value.slice gp gn gc, Value.int IntKind.i64 by_,
          Value.int IntKind.i64 ct, Value.slice hp hn hc, Value.bool wd, Value.bool fx, Value.bool ov,
          Value.bool my]).toArray,
  Value.pointer
    (some
      { block := b,
        off :=
          o })] (Tryz.f48.ntmps - ([Value.agg
    (arrI IntKind.u8 id 32 0 ++
        [Value.int IntKind.i64 dt, Value.int IntKind.i64 ar, Value.slice gp gn gc, Value.int IntKind.i64 by_,
          Value.int IntKind.i64 ct, Value.slice hp hn hc, Value.bool wd, Value.bool fx, Value.bool ov,
          Value.bool my]).toArray,
  Value.pointer
    (some
      { block := b,
        off :=
          o })] : List Value).length)) w = VC_estep3 id dt ar gp gn gc by_ ct hp hn hc wd fx ov my b o w R := by kernel_rfl
  have hb : Tryz.f48.body = some (Tryz.f48.body.getD .skip) := by kernel_rfl
  exact calls_of_exec2' (P := Tryz.prog) (fn := Tryz.f48) (c := Tryz.f48.body.getD .skip) (args := [Value.agg
    (arrI IntKind.u8 id 32 0 ++
        [Value.int IntKind.i64 dt, Value.int IntKind.i64 ar, Value.slice gp gn gc, Value.int IntKind.i64 by_,
          Value.int IntKind.i64 ct, Value.slice hp hn hc, Value.bool wd, Value.bool fx, Value.bool ov,
          Value.bool my]).toArray,
  Value.pointer (some { block := b, off := o })]) (w := w) (R := R) pur2_ok Tryz.func48 hb e h

end Go.Proofs.YtmjanmffnblcoaaGreatDoor

/- The formulas of functions by the symbolic evaluator, and that each gives the call's contract. Written by a program (gen.py). No condition. -/
namespace Go.Proofs.YtmjanmffnblcoaaGreatDoor
set_option maxRecDepth 100000
set_option linter.unusedVariables false

def VC_estep4 (id : Nat → Int) (dt : Int) (ar : Int) (gp : Option Addr) (gn : Nat) (gc : Nat) (by_ : Int) (ct : Int) (hp : Option Addr) (hn : Nat) (hc : Nat) (wd : Bool) (fx : Bool) (ov : Bool) (my : Bool) (b : Nat) (o : Nat) (b1 : Nat) (o1 : Nat) (b2 : Nat) (o2 : Nat) (w : World) (R : Ending → World → Prop) : Prop :=
 ∀ (n : Nat) (W : World),
 Loc w.heap.size
 [Blk.mk n 103
 (arrI IntKind.u8 id 32 0 ++ [Value.int IntKind.i64 dt, Value.int IntKind.i64 ar,
 Value.slice gp gn gc, Value.int IntKind.i64 by_, Value.int IntKind.i64 ct, Value.slice hp hn hc, Value.bool wd,
 Value.bool fx, Value.bool ov, Value.bool my])
 2]
 w W →
 ∃ (S : World → Prop),
 S W ∧
 ∃ (p : Option Addr),
 ∃ (n_1 : Nat),
 ∃ (c : Nat),
 (∀ (w' : World), S w' → w'.cell? (Addr.mk b o none) = some (Value.slice p n_1 c)) ∧
 ∃ (x : Int),
 (∀ (w' : World), S w' → w'.cell? (Addr.mk b1 o1 none) = some (Value.int IntKind.i64 x)) ∧
 nn true p fun (b o : Nat) =>
 (0 ≤ x ∧ x < (↑n_1 : Int)) ∧
 ∃ (x_1 : Value),
 (∀ (w' : World), S w' → w'.cell? (Addr.mk b (o + x.toNat) none) = some x_1) ∧
 ∃ (f : Nat → Int),
 ∃ (x : Int),
 ∃ (x_2 : Int),
 ∃ (p : Option Addr),
 ∃ (n_2 : Nat),
 ∃ (c : Nat),
 ∃ (x_3 : Int),
 ∃ (x_4 : Int),
 ∃ (p_1 : Option Addr),
 ∃ (n_3 : Nat),
 ∃ (c_1 : Nat),
 ∃ (x_5 : Bool),
 ∃ (x_6 : Bool),
 ∃ (x_7 : Bool),
 ∃ (x_8 : Bool),
 (∀ (w' : World),
 S w' →
 AtL w' n 0
 (arrI IntKind.u8 f 32 0 ++ [Value.int IntKind.i64 x,
 Value.int IntKind.i64 x_2, Value.slice p n_2 c, Value.int IntKind.i64 x_3,
 Value.int IntKind.i64 x_4, Value.slice p_1 n_3 c_1, Value.bool x_5, Value.bool x_6,
 Value.bool x_7, Value.bool x_8])) ∧
 ∃ (f_1 : Nat),
 ∃ (a : Array Value),
 ∃ (b : Array Value),
 x_1 = Value.func (Fn.func f_1) a b ∧
 okFn Tryz.prog f_1 = true ∧
 CallsS Tryz.prog f_1
 (appA a
 [Value.agg
 (arrI IntKind.u8 f 32 0 ++ [Value.int IntKind.i64 x, Value.int IntKind.i64 x_2, Value.slice p n_2 c,
 Value.int IntKind.i64 x_3, Value.int IntKind.i64 x_4, Value.slice p_1 n_3 c_1,
 Value.bool x_5, Value.bool x_6, Value.bool x_7, Value.bool x_8]).toArray]
 b)
 W fun (e : Ending) (w' : World) =>
 ∃ (x : Bool),
 e = Ending.returned (Value.bool x) ∧
 S w' ∧
 ∃ (x_9 : Option Addr),
 gimp x
 (∀ (w' : World),
 S w' → w'.cell? (Addr.mk b2 o2 none) = some (Value.pointer x_9)) ∧
 ∃ (f : Nat → Int),
 ∃ (x_10 : Int),
 ∃ (x_11 : Int),
 ∃ (p : Option Addr),
 ∃ (n_4 : Nat),
 ∃ (c : Nat),
 ∃ (x_12 : Int),
 ∃ (x_13 : Int),
 ∃ (p_2 : Option Addr),
 ∃ (n_5 : Nat),
 ∃ (c_2 : Nat),
 ∃ (x_14 : Bool),
 ∃ (x_15 : Bool),
 ∃ (x_16 : Bool),
 ∃ (x_17 : Bool),
 gimp x
 (∀ (w' : World),
 S w' →
 AtL w' n 0
 (arrI IntKind.u8 f 32 0 ++ [Value.int IntKind.i64 x_10, Value.int IntKind.i64 x_11,
 Value.slice p n_4 c, Value.int IntKind.i64 x_12,
 Value.int IntKind.i64 x_13, Value.slice p_2 n_5 c_2,
 Value.bool x_14, Value.bool x_15, Value.bool x_16,
 Value.bool x_17])) ∧
 bsp x
 (CallsS Tryz.prog 51
 #[Value.pointer x_9,
 Value.agg
 (arrI IntKind.u8 f 32 0 ++ [Value.int IntKind.i64 x_10, Value.int IntKind.i64 x_11,
 Value.slice p n_4 c, Value.int IntKind.i64 x_12,
 Value.int IntKind.i64 x_13, Value.slice p_2 n_5 c_2,
 Value.bool x_14, Value.bool x_15, Value.bool x_16,
 Value.bool x_17]).toArray]
 w' fun (e : Ending) (w' : World) =>
 ∃ (x : Bool),
 e = Ending.returned (Value.bool x) ∧
 KeptL [n] W w' ∧
 R (Ending.returned (Value.bool (true && !x))) w')
 (KeptL [n] W w' ∧ R (Ending.returned (Value.bool false)) w')
theorem vc_estep4 (id : Nat → Int) (dt : Int) (ar : Int) (gp : Option Addr) (gn : Nat) (gc : Nat) (by_ : Int) (ct : Int) (hp : Option Addr) (hn : Nat) (hc : Nat) (wd : Bool) (fx : Bool) (ov : Bool) (my : Bool) (b : Nat) (o : Nat) (b1 : Nat) (o1 : Nat) (b2 : Nat) (o2 : Nat) (w : World) (R : Ending → World → Prop) (h : VC_estep4 id dt ar gp gn gc by_ ct hp hn hc wd fx ov my b o b1 o1 b2 o2 w R) : Calls Tryz.prog 50 ([Value.agg
    (arrI IntKind.u8 id 32 0 ++
        [Value.int IntKind.i64 dt, Value.int IntKind.i64 ar, Value.slice gp gn gc, Value.int IntKind.i64 by_,
          Value.int IntKind.i64 ct, Value.slice hp hn hc, Value.bool wd, Value.bool fx, Value.bool ov,
          Value.bool my]).toArray,
  Value.pointer (some { block := b, off := o }), Value.pointer (some { block := b1, off := o1 }),
  Value.pointer (some { block := b2, off := o2 })] : List Value).toArray w R := by
  have e : execR2 { P := Tryz.prog, loops := [], pur := pur2, tails := [(1, 5)], joins := [], boxes := [] } Tryz.f50.results.toList R (Tryz.f50.body.getD .skip) (initF [Value.agg
    (arrI IntKind.u8 id 32 0 ++
        [Value.int IntKind.i64 dt, Value.int IntKind.i64 ar, Value.slice gp gn gc, Value.int IntKind.i64 by_,
          Value.int IntKind.i64 ct, Value.slice hp hn hc, Value.bool wd, Value.bool fx, Value.bool ov,
          Value.bool my]).toArray,
  Value.pointer (some { block := b, off := o }), Value.pointer (some { block := b1, off := o1 }),
  Value.pointer
    (some
      { block := b2,
        off :=
          o2 })] (Tryz.f50.ntmps - ([Value.agg
    (arrI IntKind.u8 id 32 0 ++
        [Value.int IntKind.i64 dt, Value.int IntKind.i64 ar, Value.slice gp gn gc, Value.int IntKind.i64 by_,
          Value.int IntKind.i64 ct, Value.slice hp hn hc, Value.bool wd, Value.bool fx, Value.bool ov,
          Value.bool my]).toArray,
  Value.pointer (some { block := b, off := o }), Value.pointer (some { block := b1, off := o1 }),
  Value.pointer
    (some
      { block := b2,
        off :=
          o2 })] : List Value).length)) w = VC_estep4 id dt ar gp gn gc by_ ct hp hn hc wd fx ov my b o b1 o1 b2 o2 w R := by kernel_rfl
  have hb : Tryz.f50.body = some (Tryz.f50.body.getD .skip) := by kernel_rfl
  exact calls_of_exec2' (P := Tryz.prog) (fn := Tryz.f50) (c := Tryz.f50.body.getD .skip) (args := [Value.agg
    (arrI IntKind.u8 id 32 0 ++
        [Value.int IntKind.i64 dt, Value.int IntKind.i64 ar, Value.slice gp gn gc, Value.int IntKind.i64 by_,
          Value.int IntKind.i64 ct, Value.slice hp hn hc, Value.bool wd, Value.bool fx, Value.bool ov,
          Value.bool my]).toArray,
  Value.pointer (some { block := b, off := o }), Value.pointer (some { block := b1, off := o1 }),
  Value.pointer (some { block := b2, off := o2 })]) (w := w) (R := R) pur2_ok Tryz.func50 hb e h

end Go.Proofs.YtmjanmffnblcoaaGreatDoor

/- Chapter 42: the contracts of protected, of the closures of step, and of step. No condition but sizes. -/
namespace Go.Proofs.YtmjanmffnblcoaaGreatDoor
open Go.RowKit Go.Sort Go.Maps

theorem nn_at {g : Bool} {b o : Nat} {K : Nat → Nat → Prop} (h : K b o) : nn g (some ⟨b, o, none⟩) K := h
section
variable {w0 w : World} {b : Nat} {p : Option Addr} {c mb : Nat} {tot budget : Int} {l : List CX} {ids : List (List Int)}
/-- A box that holds the planner's address. -/
abbrev PBox (w : World) (n b : Nat) : Prop := w.heap[n]? = some (.cells #[.pointer (some ⟨b, 0, none⟩)] 79 (0, 0))
theorem eprot1_any (h : PlR w0 w b p c mb tot budget l ids) {n : Nat} (hn : PBox w n b) (f : Nat → Int) (hf : ∀ j, 0 ≤ f j ∧ f j ≤ 255) :
    Calls Tryz.prog 69 #[.agg (arrI .u8 f 32 0).toArray, .pointer (some ⟨n, 0, none⟩)] w fun e w' => e = .returned (.bool (decide (idI f ∈ ids))) ∧ K0 w w' := by
  refine vc_eprot1 f n 0 w _ ?_
  intro n1
  refine ⟨some ⟨b, 0, none⟩, fun W hW => cell_at ((hW.kk rfl).blk hn (fun h => h)) rfl, nn_at ⟨some mb, fun W hW => cell_at ((hW.kk rfl).blk h.blk (fun h => h)) rfl, decide (idI f ∈ ids), fun W hW => ?_, fun W hW => ⟨rfl, hW.kk rfl⟩⟩⟩
  obtain ⟨ml, hm, hi⟩ := (h.k (hW.kk rfl)).map
  have := MapB.look byA_inj hm idKeyed Tryz.underlying97 (zeroBool W) (idKey (idI_len f) (idI_bd hf)) false
  simp only at this
  by_cases hh : idI f ∈ ids
  · rw [(hi _).1 hh] at this
    rw [decide_eq_true hh]
    exact this
  · rw [(hi _).2 hh] at this
    rw [decide_eq_false hh]
    exact this
def protC (ids : List (List Int)) (y : CX) : Bool := y.fx || y.a.hs.any fun h => decide (idI h ∈ ids)
theorem eprot_any (h : PlR w0 w b p c mb tot budget l ids) (y : CX) (hy : AXR w0 y.a) (hok : ArOK y.a) :
    Calls Tryz.prog 51 #[.pointer (some ⟨b, 0, none⟩), .agg (cxC y).toArray] w fun e w' => e = .returned (.bool (protC ids y)) ∧ K0 w w' := by
  refine vc_eprot b 0 y.a.id y.a.dt y.a.ar y.a.gp y.a.gs.length y.a.gc y.a.by_ y.a.ct y.a.hp y.a.hs.length y.a.hc y.a.wd y.fx y.ov y.my w _ ?_
  intro n n1
  refine ⟨y.a.id, y.a.dt, y.a.ar, y.a.gp, y.a.gs.length, y.a.gc, y.a.by_, y.a.ct, y.a.hp, y.a.hs.length, y.a.hc, y.a.wd, gimp_intro fun _ W hW => AtL_block (hW.cells 0 rfl) rfl, fun W hW => ?_⟩
  have kW : K0 w W := hW.kk rfl
  have hn := hW.cells 1 rfl
  refine bsp_intro (fun hfx => ?_) (fun hfx => ⟨.refl _ _, ?_, kW⟩)
  · have hfx : y.fx = false := by simpa using hfx
    refine ⟨(eheld_any y.a 69 #[] #[.pointer (some ⟨n, 0, none⟩)] (fun g => decide (idI g ∈ ids)) W (hy.hs.k0 (h.k0.trans kW)) hok.hl (by kernel_rfl) (fun g hg w1 k1 => eprot1_any ((h.k kW).k k1) (k1.blk hn (fun h => h)) g (hok.hs g hg))).mono fun e w2 ⟨he, k2⟩ => ⟨_, he, .of_k0 k2, ?_, kW.trans k2⟩⟩
    unfold protC
    rw [hfx]
  · have hfx : y.fx = true := by simpa using hfx
    unfold protC
    rw [hfx, Bool.true_or]
theorem estep1_any (y : CX) (w : World) : Calls Tryz.prog 46 #[.agg (cxC y).toArray] w fun e w' => e = .returned (.bool (y.a.wd && y.a.ct == 0)) ∧ K0 w w' := by
  refine vc_estep1 y.a.id y.a.dt y.a.ar y.a.gp y.a.gs.length y.a.gc y.a.by_ y.a.ct y.a.hp y.a.hs.length y.a.hc y.a.wd y.fx y.ov y.my w _ ?_
  intro n
  exact ⟨y.a.ct, gimp_intro fun _ W hW => cell_at (hW.cells 0 rfl) rfl, fun W hW => ⟨rfl, hW.kk rfl⟩⟩
theorem estep2_any (y : CX) (w : World) : Calls Tryz.prog 47 #[.agg (cxC y).toArray] w fun e w' => e = .returned (.bool y.ov) ∧ K0 w w' := by
  refine vc_estep2 y.a.id y.a.dt y.a.ar y.a.gp y.a.gs.length y.a.gc y.a.by_ y.a.ct y.a.hp y.a.hs.length y.a.hc y.a.wd y.fx y.ov y.my w _ ?_
  intro n W hW
  exact ⟨rfl, hW.kk rfl⟩
theorem estep3_any (h : PlR w0 w b p c mb tot budget l ids) {n : Nat} (hn : PBox w n b) (y : CX) : Calls Tryz.prog 48 #[.agg (cxC y).toArray, .pointer (some ⟨n, 0, none⟩)] w fun e w' => e = .returned (.bool (decide (budget < tot) && y.my)) ∧ K0 w w' := by
  refine vc_estep3 y.a.id y.a.dt y.a.ar y.a.gp y.a.gs.length y.a.gc y.a.by_ y.a.ct y.a.hp y.a.hs.length y.a.hc y.a.wd y.fx y.ov y.my n 0 w _ ?_
  intro n1
  exact ⟨some ⟨b, 0, none⟩, fun W hW => cell_at ((hW.kk rfl).blk hn (fun h => h)) rfl, nn_at ⟨tot, fun W hW => cell_at ((hW.kk rfl).blk h.blk (fun h => h)) rfl, some ⟨b, 0, none⟩, fun W hW => cell_at ((hW.kk rfl).blk hn (fun h => h)) rfl, nn_at ⟨budget, fun W hW => cell_at ((hW.kk rfl).blk h.blk (fun h => h)) rfl, y.my, gimp_intro fun _ W hW => cell_at (hW.cells 0 rfl) rfl, fun W hW => ⟨rfl, hW.kk rfl⟩⟩⟩⟩
def reasC (tot budget : Int) (k : Nat) (y : CX) : Bool := match k with
  | 1 => y.a.wd && y.a.ct == 0
  | 2 => y.ov
  | _ => decide (budget < tot) && y.my
def goC (tot budget : Int) (ids : List (List Int)) (k : Nat) (y : CX) : Bool := reasC tot budget k y && !protC ids y
/-- What step makes: the box of the receiver, the reasons, their box. -/
structure StE (w : World) (n n2 n3 b : Nat) : Prop where
  bx : PBox w n b
  rs : w.heap[n2]? = some (.cells #[.nilFunc, .func (.func 46) #[] #[], .func (.func 47) #[] #[], .func (.func 48) #[] #[.pointer (some ⟨n, 0, none⟩)]] 109 (0, 0))
  rb : w.heap[n3]? = some (.cells #[.slice (some ⟨n2, 0, none⟩) 4 4] 110 (0, 0))
theorem StE.k {w w' : World} {n n2 n3 b : Nat} (h : StE w n n2 n3 b) (hk : K0 w w') : StE w' n n2 n3 b := ⟨hk.blk h.bx (fun h => h), hk.blk h.rs (fun h => h), hk.blk h.rb (fun h => h)⟩
set_option maxRecDepth 100000 in
theorem estep4_any (h : PlR w0 w b p c mb tot budget l ids) {n n2 n3 n4 k : Nat} (hE : StE w n n2 n3 b) (hk : w.heap[n4]? = some (.cells #[.int .i64 (k : Int)] 3 (0, 0))) (hk1 : 1 ≤ k) (hk3 : k ≤ 3) (y : CX) (hy : AXR w0 y.a) (hok : ArOK y.a) :
    Calls Tryz.prog 50 #[.agg (cxC y).toArray, .pointer (some ⟨n3, 0, none⟩), .pointer (some ⟨n4, 0, none⟩), .pointer (some ⟨n, 0, none⟩)] w fun e w' => e = .returned (.bool (goC tot budget ids k y)) ∧ K0 w w' := by
  refine vc_estep4 y.a.id y.a.dt y.a.ar y.a.gp y.a.gs.length y.a.gc y.a.by_ y.a.ct y.a.hp y.a.hs.length y.a.hc y.a.wd y.fx y.ov y.my n3 0 n4 0 n 0 w _ ?_
  intro n5 W hW
  have kW : K0 w W := hW.kk rfl
  have hEW := hE.k kW
  have hkW := kW.blk hk (fun h => h)
  have hy5 := hW.cells 0 rfl
  have hpl := h.k kW
  refine ⟨fun wx => K0 W wx, .refl _ _, some ⟨n2, 0, none⟩, 4, 4, fun wx kx => cell_at (kx.blk hEW.rb (fun h => h)) rfl, (k : Int), fun wx kx => cell_at (kx.blk hkW (fun h => h)) rfl, nn_at ?_⟩
  refine ⟨by omega, ?_⟩
  rw [Int.toNat_natCast]
  have tail : ∀ (x : Bool) (w1 : World), x = reasC tot budget k y → K0 W w1 → K0 W w1 ∧ ∃ (x_9 : Option Addr), gimp x (∀ (w' : World), K0 W w' → w'.cell? (Addr.mk n 0 none) = some (.pointer x_9)) ∧ ∃ (f : Nat → Int) (x_10 x_11 : Int) (p : Option Addr) (n_4 c : Nat) (x_12 x_13 : Int) (p_2 : Option Addr) (n_5 c_2 : Nat) (x_14 x_15 x_16 x_17 : Bool), gimp x (∀ (w' : World), K0 W w' → AtL w' n5 0 (arrI .u8 f 32 0 ++ ([.int .i64 x_10, .int .i64 x_11, .slice p n_4 c, .int .i64 x_12, .int .i64 x_13, .slice p_2 n_5 c_2, .bool x_14, .bool x_15, .bool x_16, .bool x_17] : List Value))) ∧
      bsp x (CallsS Tryz.prog 51 #[.pointer x_9, .agg (arrI .u8 f 32 0 ++ ([.int .i64 x_10, .int .i64 x_11, .slice p n_4 c, .int .i64 x_12, .int .i64 x_13, .slice p_2 n_5 c_2, .bool x_14, .bool x_15, .bool x_16, .bool x_17] : List Value)).toArray] w1 fun (e : Ending) (w' : World) => ∃ (x : Bool), e = .returned (.bool x) ∧ KeptL [n5] W w' ∧ ((Ending.returned (.bool (true && !x)) = .returned (.bool (goC tot budget ids k y))) ∧ K0 w w'))
        (KeptL [n5] W w1 ∧ ((Ending.returned (.bool false) = .returned (.bool (goC tot budget ids k y))) ∧ K0 w w1)) := by
    intro x w1 hx k1
    refine ⟨k1, some ⟨b, 0, none⟩, gimp_intro fun _ wx kx => cell_at (kx.blk hEW.bx (fun h => h)) rfl, y.a.id, y.a.dt, y.a.ar, y.a.gp, y.a.gs.length, y.a.gc, y.a.by_, y.a.ct, y.a.hp, y.a.hs.length, y.a.hc, y.a.wd, y.fx, y.ov, y.my, gimp_intro fun _ wx kx => AtL_block (kx.blk hy5 (fun h => h)) rfl, bsp_intro (fun hxt => ?_) (fun hxf => ⟨.of_k0 k1, ?_, kW.trans k1⟩)⟩
    · refine ⟨(eprot_any (hpl.k k1) y hy hok).mono fun e w2 ⟨he, k2⟩ => ⟨_, he, .of_k0 (k1.trans k2), ?_, (kW.trans k1).trans k2⟩⟩
      unfold goC
      rw [← hx, hxt]
    · unfold goC
      rw [← hx, hxf, Bool.false_and]
  rcases (show k = 1 ∨ k = 2 ∨ k = 3 by omega) with rfl | rfl | rfl
  · refine ⟨_, fun wx kx => cell_at (kx.blk hEW.rs (fun h => h)) rfl, y.a.id, y.a.dt, y.a.ar, y.a.gp, y.a.gs.length, y.a.gc, y.a.by_, y.a.ct, y.a.hp, y.a.hs.length, y.a.hc, y.a.wd, y.fx, y.ov, y.my, fun wx kx => AtL_block (kx.blk hy5 (fun h => h)) rfl, _, #[], #[], rfl, by kernel_rfl, ?_⟩
    exact ⟨(estep1_any y W).mono fun e w1 ⟨he, k1⟩ => ⟨_, he, tail _ w1 rfl k1⟩⟩
  · refine ⟨_, fun wx kx => cell_at (kx.blk hEW.rs (fun h => h)) rfl, y.a.id, y.a.dt, y.a.ar, y.a.gp, y.a.gs.length, y.a.gc, y.a.by_, y.a.ct, y.a.hp, y.a.hs.length, y.a.hc, y.a.wd, y.fx, y.ov, y.my, fun wx kx => AtL_block (kx.blk hy5 (fun h => h)) rfl, _, #[], #[], rfl, by kernel_rfl, ?_⟩
    exact ⟨(estep2_any y W).mono fun e w1 ⟨he, k1⟩ => ⟨_, he, tail _ w1 rfl k1⟩⟩
  · refine ⟨_, fun wx kx => cell_at (kx.blk hEW.rs (fun h => h)) rfl, y.a.id, y.a.dt, y.a.ar, y.a.gp, y.a.gs.length, y.a.gc, y.a.by_, y.a.ct, y.a.hp, y.a.hs.length, y.a.hc, y.a.wd, y.fx, y.ov, y.my, fun wx kx => AtL_block (kx.blk hy5 (fun h => h)) rfl, _, #[], #[.pointer (some ⟨n, 0, none⟩)], rfl, by kernel_rfl, ?_⟩
    exact ⟨(estep3_any hpl hEW.bx y).mono fun e w1 ⟨he, k1⟩ => ⟨_, he, tail _ w1 rfl k1⟩⟩
end

end Go.Proofs.YtmjanmffnblcoaaGreatDoor

/- Chapter 42: the contract of step. No condition but sizes. -/
namespace Go.Proofs.YtmjanmffnblcoaaGreatDoor
open Go.RowKit Go.Sort Go.Maps

/-- What step takes: the number and the kind. -/
def pickI (tot budget : Int) (ids : List (List Int)) (l : List CX) : Option (Nat × Nat) := match l.findIdx? (goC tot budget ids 1) with
  | some i => some (i, 1)
  | none => match l.findIdx? (goC tot budget ids 2) with
    | some i => some (i, 2)
    | none => match l.findIdx? (goC tot budget ids 3) with
      | some i => some (i, 3)
      | none => none
theorem pickI_hit {tot budget : Int} {ids : List (List Int)} {l : List CX} {k i : Nat} (h1 : 1 ≤ k) (h3 : k ≤ 3) (hno : ∀ j, 1 ≤ j → j < k → l.findIdx? (goC tot budget ids j) = none) (hi : l.findIdx? (goC tot budget ids k) = some i) : pickI tot budget ids l = some (i, k) := by
  unfold pickI
  rcases (show k = 1 ∨ k = 2 ∨ k = 3 by omega) with rfl | rfl | rfl
  · rw [hi]
  · rw [hno 1 (by omega) (by omega), hi]
  · rw [hno 1 (by omega) (by omega), hno 2 (by omega) (by omega), hi]
theorem pickI_miss {tot budget : Int} {ids : List (List Int)} {l : List CX} (hno : ∀ j, 1 ≤ j → j < 4 → l.findIdx? (goC tot budget ids j) = none) : pickI tot budget ids l = none := by
  unfold pickI
  rw [hno 1 (by omega) (by omega), hno 2 (by omega) (by omega), hno 3 (by omega) (by omega)]
theorem nn_eq {g : Bool} {p : Option Addr} {b o : Nat} {K : Nat → Nat → Prop} (hp : p = some ⟨b, o, none⟩) (h : K b o) : nn g p K := by subst hp; exact h
def without' (ids : List (List Int)) (i : List Int) : List (List Int) := ids.filter fun j => !decide (j = i)
def whyL (f : Nat → Int) (k : Int) : List Value := arrI .u8 f 32 0 ++ ([.int .i64 k] : List Value)

set_option maxRecDepth 100000 in
set_option maxHeartbeats 2000000 in
theorem estep_any {w0 w : World} {b : Nat} {p : Option Addr} {c mb : Nat} {tot budget : Int} {l : List CX} {ids : List (List Int)} (h : PlR w0 w b p c mb tot budget l ids) (hok : ∀ y ∈ l, ArOK y.a) (hl : l.length ≤ 1000) (ht : -1125899906842624 ≤ tot ∧ tot ≤ 1152921504606846976) :
    Calls Tryz.prog 29 #[.pointer (some ⟨b, 0, none⟩)] w fun e w' =>
      (pickI tot budget ids l = none ∧ e = .returned (.tuple #[.agg (whyL (fun _ => 0) 0).toArray, .bool false]) ∧ K0 w w') ∨
      (∃ (i k : Nat) (y : CX), pickI tot budget ids l = some (i, k) ∧ l[i]? = some y ∧ e = .returned (.tuple #[.agg (whyL y.a.id (k : Int)).toArray, .bool true]) ∧
        PlR w0 w' b p c mb (tot - y.a.by_) budget (l.eraseIdx i) (without' ids (idI y.a.id)) ∧ Kp (fun j => j = b ∨ j = mb ∨ (Value.slice p l.length c).ownBlock = some j) w w') := by
  refine vc_estep b 0 w _ ?_
  intro n n1 W hW n2 n3 W1 hW1 n4 W2 hW2
  have kW : K0 w W := hW.kk rfl
  have kW1 : K0 W W1 := hW1.kk rfl
  have kW2 : K0 W1 W2 := hW2.kk rfl
  have kw2 : K0 w W2 := (kW.trans kW1).trans kW2
  have g1 : w.heap.size ≤ n1 := hW.fresh 0 rfl rfl
  have hbn : PBox W2 n b := kW2.blk (kW1.blk (hW.cells 1 rfl) (fun h => h)) (fun h => h)
  have hE2 : StE W2 n n2 n3 b := ⟨hbn, kW2.blk (hW1.cells 1 rfl) (fun h => h), hW2.cells 1 rfl⟩
  refine ⟨fun vs w' => ∃ (k m : Nat), vs = [.pointer (some ⟨m, 0, none⟩)] ∧ 1 ≤ k ∧ k ≤ 4 ∧ (∀ j, 1 ≤ j → j < k → l.findIdx? (goC tot budget ids j) = none) ∧ w'.heap[m]? = some (.cells #[.int .i64 (k : Int)] 3 (0, 0)) ∧ StE w' n n2 n3 b ∧ w'.heap[n1]? = some (.cells (whyL (fun _ => 0) 0).toArray 53 (0, 0)) ∧ K0 w w',
    fun vs w' => (match vs with | .pointer (some a) :: _ => (match w'.cell? a with | some (.int _ k) => 4 - k.toNat | _ => 0) | _ => 0), ⟨1, n4, rfl, by omega, by omega, (fun j h1 h2 => by omega), hW2.cells 0 rfl, hE2, hW2.cells 2 rfl, kw2⟩, ?_⟩
  rintro x w3 ⟨k, m, hv, hk1, hk4, hno, hbm, hE, hbn1, kw3⟩
  simp only [List.cons.injEq, Value.pointer.injEq, and_true] at hv
  subst hv
  have hpl := h.k kw3
  refine nn_at ⟨(k : Int), cell_at hbm rfl, bsp_intro (fun hk3 => ?_) (fun hk3 => ?_)⟩
  · have hk3 : k ≤ 3 := by simp at hk3; omega
    refine ⟨some ⟨b, 0, none⟩, cell_at hE.bx rfl, nn_at ⟨p, l.length, c, cell_at hpl.blk rfl, ?_⟩⟩
    refine ⟨(eidxC_any l p c 50 #[] #[.pointer (some ⟨n3, 0, none⟩), .pointer (some ⟨m, 0, none⟩), .pointer (some ⟨n, 0, none⟩)] (goC tot budget ids k) w3 (RowA.own hpl.own cxC_length (by decide)) (by omega) (by kernel_rfl) (fun y hy w4 k4 => estep4_any (hpl.k k4) (hE.k k4) (k4.blk hbm (fun h => h)) hk1 hk3 y (h.art y hy) (hok y hy))).mono fun e w4 ⟨he, k4⟩ => ⟨_, he, .of_k0 k4, ?_⟩⟩
    have kw4 := kw3.trans k4
    have hpl4 := h.k kw4
    have hE4 := hE.k k4
    have hbm4 := k4.blk hbm (fun h => h)
    have hbn14 := k4.blk hbn1 (fun h => h)
    cases hf : l.findIdx? (goC tot budget ids k) with
    | none =>
      have e1 : fiR (goC tot budget ids k) l = -1 := by unfold fiR; rw [hf]
      rw [e1]
      refine bsp_intro (fun _ => ?_) (fun h => by simp at h)
      refine nn_at ⟨(k : Int), cell_at hbm4 rfl, fun n5 W5 hW5 => ?_⟩
      have k5 : K0 w4 W5 := hW5.kk rfl
      have hb5 := hW5.cells 0 rfl
      rw [inc64 (by omega)] at hb5
      refine ⟨⟨k + 1, n5, rfl, by omega, by omega, fun j h1 h2 => ?_, hb5, hE4.k k5, k5.blk hbn14 (fun h => h), kw4.trans k5⟩, ?_⟩
      · rcases Nat.lt_or_ge j k with hj | hj
        · exact hno j h1 hj
        · rw [show j = k by omega]; exact hf
      · have c1 : W5.cell? ⟨n5, 0, none⟩ = some (.int .i64 ((k + 1 : Nat) : Int)) := cell_at hb5 rfl
        have c2 : w3.cell? ⟨m, 0, none⟩ = some (.int .i64 (k : Int)) := cell_at hbm rfl
        simp only [c1, c2]
        omega
    | some i =>
      have e1 : fiR (goC tot budget ids k) l = (i : Int) := by unfold fiR; rw [hf]
      have hil : i < l.length := by rw [List.findIdx?_eq_some_iff_getElem] at hf; exact hf.1
      have hpick := pickI_hit hk1 hk3 hno hf
      obtain ⟨y, b', o', hy, hp', hat⟩ := (RowA.own hpl4.own cxC_length (by decide)).get hil
      have hyl := List.mem_of_getElem? hy
      have oky := hok y hyl
      rw [e1]
      refine bsp_intro (fun h => by exfalso; simp at h; omega) (fun _ => ?_)
      refine ⟨some ⟨b, 0, none⟩, cell_at hE4.bx rfl, nn_at ⟨p, l.length, c, cell_at hpl4.blk rfl, ?_⟩⟩
      refine nn_eq hp' ⟨by omega, ?_⟩
      rw [Int.toNat_natCast]
      refine ⟨y.a.id, y.a.dt, y.a.ar, y.a.gp, y.a.gs.length, y.a.gc, y.a.by_, y.a.ct, y.a.hp, y.a.hs.length, y.a.hc, y.a.wd, y.fx, y.ov, y.my, hat, fun n9 W9 hW9 => ?_⟩
      have k9 : K0 w4 W9 := hW9.kk rfl
      have hpl9 := hpl4.k k9
      have hE9 := hE4.k k9
      have hb9 := hpl9.blk
      have hbn19 := k9.blk hbn14 (fun h => h)
      have hbm9 := k9.blk hbm4 (fun h => h)
      have hc9 := hW9.cells 0 rfl
      refine ⟨fun wx => wx.heap[n]? = W9.heap[n]? ∧ wx.heap[b]? = W9.heap[b]?, ⟨rfl, rfl⟩, some ⟨b, 0, none⟩, fun wx hx => cell_at (hx.1.trans hE9.bx) rfl, some ⟨b, 0, none⟩, fun wx hx => cell_at (hx.1.trans hE9.bx) rfl, nn_at ⟨p, l.length, c, fun wx hx => cell_at (hx.2.trans hb9) rfl, ?_⟩⟩
      rw [inc64 (by omega)]
      refine ⟨(edelete_any l p c i W9 hpl9.own hil (by omega)).mono fun e w10 ⟨he, ho10, k10⟩ => ⟨_, _, _, he, ?_⟩⟩
      have nb : ¬ (Value.slice p l.length c).ownBlock = some b := own_not hpl9.own hb9 rfl
      have nn' : ¬ (Value.slice p l.length c).ownBlock = some n := own_not hpl9.own hE9.bx rfl
      have n1r : ¬ (Value.slice p l.length c).ownBlock = some n1 := own_not hpl9.own hbn19 rfl
      have nmr : ¬ (Value.slice p l.length c).ownBlock = some m := own_not hpl9.own hbm9 rfl
      have hb10 := k10.blk hb9 nb
      refine ⟨⟨k10.block n (block_lt hE9.bx) nn', k10.block b (block_lt hb9) nb⟩, nn_at ⟨cell_wr2 hb10 rfl, fun w11 hp11 => ?_⟩⟩
      have hb11 := hp11.block hb10
      have hbx10 := k10.blk hE9.bx nn'
      have nbn : n ≠ b := blk_ne hbx10 hb10 rfl
      have hbx11 := hp11.blk hbx10 nbn
      have n9r : ¬ (Value.slice p l.length c).ownBlock = some n9 := fun e => by
        have h1 := own_lt hpl4.own e
        have h2 := hW9.fresh 0 rfl rfl
        simp only at h2
        omega
      have hc10 := k10.blk hc9 n9r
      have n9b : n9 ≠ b := blk_ne hc10 hb10 rfl
      have hc11 := hp11.blk hc10 n9b
      have hbn110 := k10.blk hbn19 n1r
      have n1b : n1 ≠ b := blk_ne hbn110 hb10 rfl
      have hbn111 := hp11.blk hbn110 n1b
      have hbm10 := k10.blk hbm9 nmr
      have nmb : m ≠ b := blk_ne hbm10 hb10 rfl
      have hbm11 := hp11.blk hbm10 nmb
      have kk11 : Kp (fun j => j = b ∨ j = mb ∨ (Value.slice p l.length c).ownBlock = some j) W9 w11 := (k10.mono fun _ _ h => .inr (.inr h)).trans (hp11.kp.mono fun _ _ h => .inl h)
      obtain ⟨es, cl, hmb⟩ := hpl9.mapAt
      have mbr : ¬ (Value.slice p l.length c).ownBlock = some mb := own_notMap hpl9.own hmb
      have mbb : b ≠ mb := blk_neMap hb9 hmb
      have hmb11 := hp11.blk (k10.blk hmb mbr) mbb.symm
      refine ⟨.of_kp kk11 (fun z hz => ?_), some ⟨b, 0, none⟩, fun W12 hW12 => cell_at ((hW12.kk rfl).blk hbx11 (fun h => h)) rfl, nn_at ⟨some mb, fun W12 hW12 => cell_at ((hW12.kk rfl).blk hb11 (fun h => h)) rfl, fun W12 hW12 => ?_⟩⟩
      · simp at hz
        subst hz
        rintro (e | e | e)
        · exact n9b e
        · exact blk_neMap hc9 hmb e
        · exact n9r e
      have k12 : K0 w11 W12 := hW12.kk rfl
      obtain ⟨ml, hm, hmi⟩ := hpl9.map
      have hm12 := ((hm.kp k10 mbr).kp hp11.kp mbb.symm).kp k12 (fun h => h)
      obtain ⟨w13, hbl, hm13, k13⟩ := MapB.del byA_inj hm12 idKeyed Tryz.underlying97 (idKey (idI_len y.a.id) (idI_bd oky.id))
      have hmb12 := k12.blk hmb11 (fun h => h)
      have hb12 := k12.blk hb11 (fun h => h)
      have hb13 := k13.blk hb12 mbb
      have hbx13 := k13.blk (k12.blk hbx11 (fun h => h)) (blk_neMap (k12.blk hbx11 (fun h => h)) hmb12)
      have hc12 := hW12.cells 0 rfl
      have n9m : n9 ≠ mb := blk_neMap hc12 hmb12
      refine ⟨w13, hbl, .of_kp k13 (fun z hz => by simp at hz; subst hz; exact n9m), some ⟨b, 0, none⟩, fun W14 hW14 => cell_at ((hW14.kk rfl).blk hbx13 (fun h => h)) rfl, nn_at ⟨tot, fun W14 hW14 => cell_at ((hW14.kk rfl).blk hb13 (fun h => h)) rfl, nn_at (fun W14 hW14 => ?_)⟩⟩
      have k14 : K0 w13 W14 := hW14.kk rfl
      have hb14 := k14.blk hb13 (fun h => h)
      have hc14 := hW14.cells 0 rfl
      refine ⟨cell_wr2 hb14 rfl, fun w15 hp15 => ⟨put_kept hp15 (fun z hz => by simp at hz; subst hz; exact blk_ne hc14 hb14 rfl), nn_at ?_⟩⟩
      have hbm12 := k12.blk hbm11 (fun h => h)
      have hbm14 := k14.blk (k13.blk hbm12 (blk_neMap hbm12 hmb12)) (fun h => h)
      have hbm15 := hp15.blk hbm14 nmb
      have hbn112 := k12.blk hbn111 (fun h => h)
      have hbn114 := k14.blk (k13.blk hbn112 (blk_neMap hbn112 hmb12)) (fun h => h)
      have hbn115 := hp15.blk hbn114 n1b
      have hb15 := hp15.block hb14
      have hc15 := hp15.blk hc14 (blk_ne hc14 hb14 rfl)
      refine ⟨(k : Int), cell_at hbm15 rfl, WrL_block hbn115 (Nat.le_refl 33), fun w16 hp16 => ?_⟩
      have hn91 : n9 ≠ n1 := blk_ne hc15 hbn115 rfl
      have kAll : Kp (fun j => j = b ∨ j = mb ∨ (Value.slice p l.length c).ownBlock = some j) w w16 := by
        have a1 : Kp (fun j => j = b ∨ j = mb ∨ (Value.slice p l.length c).ownBlock = some j) w W9 := (kw4.trans k9).mono fun _ _ h => h.elim
        have a2 := a1.trans kk11
        have a3 := a2.trans (k12.mono fun _ _ h => h.elim)
        have a4 := a3.trans (k13.mono fun _ _ h => .inr (.inl h))
        have a5 := a4.trans (k14.mono fun _ _ h => h.elim)
        have a6 := a5.trans (hp15.kp.mono fun _ _ h => .inl h)
        exact Kp.fresh a6 hp16.kp (fun j hj e => by omega)
      refine ⟨put_kept hp16 (fun z hz => by simp at hz; subst hz; exact hn91), y.a.id, (k : Int), AtL_block (hp16.full hbn115 rfl) rfl, .inr ⟨i, k, y, hpick, hy, rfl, ?_, ?_⟩⟩
      -- the planner as it is now
      · have hel : (l.eraseIdx i).length = l.length - 1 := List.length_eraseIdx_of_lt hil
        have hb16 := hp16.blk hb15 n1b.symm
        have by_ := oky.by_
        have ho11 := owns_kp ho10 hp11.kp (fun j hj e => by subst e; exact own_not ho10 hb10 rfl hj)
        have ho12 := owns_kp ho11 k12 (fun _ _ h => h)
        have ho13 := owns_kp ho12 k13 (fun j hj e => by subst e; exact own_notMap ho12 hmb12 hj)
        have ho14 := owns_kp ho13 k14 (fun _ _ h => h)
        have ho15 := owns_kp ho14 hp15.kp (fun j hj e => by subst e; exact own_not ho14 hb14 rfl hj)
        have ho16 := owns_kp ho15 hp16.kp (fun j hj e => by subst e; exact own_not ho15 hbn115 rfl hj)
        have hmb15 : n1 ≠ mb := blk_neMap hbn112 hmb12
        have hm16 := ((hm13.kp k14 (fun h => h)).kp hp15.kp mbb.symm).kp hp16.kp hmb15.symm
        refine ⟨?_, ho16, ⟨_, hm16, fun j => ?_⟩, fun z hz => h.art z (List.mem_of_mem_eraseIdx hz), ?_, h.hb, h.hmb⟩
        · have ew : IntKind.i64.wrap (tot - y.a.by_) = tot - y.a.by_ := wr64 (by omega) (by omega)
          rw [ew] at hb16
          exact hb16
        · rw [aget_adel]
          obtain ⟨m1, m2⟩ := hmi j
          unfold without'
          refine ⟨fun hj => ?_, fun hj => ?_⟩
          · obtain ⟨h1, h2⟩ := List.mem_filter.1 hj
            have h2 : ¬ j = idI y.a.id := by simpa using h2
            rw [if_neg (fun e => h2 e.symm)]
            exact m1 h1
          · by_cases e : idI y.a.id = j
            · rw [if_pos e]
            · rw [if_neg e]
              exact m2 fun h' => hj (List.mem_filter.2 ⟨h', by simpa using fun e' => e e'.symm⟩)
        · exact Kp.fresh h.k0 kAll (fun j hj e => by
            rcases e with e | e | e
            · have := h.hb; omega
            · have := h.hmb; omega
            · have := own_ge h.own e; omega)
      · exact kAll
  · have hk : k = 4 := by simp at hk3; omega
    subst hk
    refine ⟨WrL_block hbn1 (Nat.le_refl 33), fun w4 hp => ⟨.of_kp hp.kp (fun z hz => by cases hz), fun _ => 0, 0, AtL_block (hp.full hbn1 rfl) rfl, .inl ⟨pickI_miss hno, rfl, put_k0 kw3 hp g1⟩⟩⟩

end Go.Proofs.YtmjanmffnblcoaaGreatDoor

/- The formulas of functions by the symbolic evaluator, and that each gives the call's contract. Written by a program (gen.py). No condition. -/
namespace Go.Proofs.YtmjanmffnblcoaaGreatDoor
set_option maxRecDepth 100000
set_option linter.unusedVariables false

def VC_eplan (p : Option Addr) (n : Nat) (c : Nat) (q : Option Addr) (k : Nat) (d : Nat) (now : Int) (budget : Int) (w : World) (R : Ending → World → Prop) : Prop :=
 CallsS Tryz.prog 25 #[Value.slice p n c] w fun (e : Ending) (w' : World) =>
 ∃ (p : Option Addr),
 ∃ (n : Nat),
 ∃ (c : Nat),
 ∃ (p_1 : Option Addr),
 ∃ (n_1 : Nat),
 ∃ (c_1 : Nat),
 ∃ (x : Int),
 e =
 Ending.returned
 (Value.tuple #[Value.agg #[Value.slice p n c, Value.slice p_1 n_1 c_1], Value.int IntKind.i64 x]) ∧
 KeptL [] w w' ∧
 ∀ (n_2 : Nat),
 bsp (x != 0)
 (∀ (W : World),
 Loc w.heap.size [Blk.mk n_2 74 [Value.slice p n c, Value.slice p_1 n_1 c_1] (wrM 2)] w' W →
 R (Ending.returned (Value.tuple #[Value.slice none 0 0, Value.int IntKind.i64 x])) W)
 (bsp (!minB now || decide (budget < 0))
 (∀ (W : World),
 Loc w.heap.size [Blk.mk n_2 74 [Value.slice p n c, Value.slice p_1 n_1 c_1] (wrM 2)] w' W →
 R (Ending.returned (Value.tuple #[Value.slice none 0 0, Value.int IntKind.i64 2])) W)
 (∀ (W : World),
 Loc w.heap.size [Blk.mk n_2 74 [Value.slice p n c, Value.slice p_1 n_1 c_1] (wrM 2)] w' W →
 CallsS Tryz.prog 27 #[Value.slice q k d] W fun (e : Ending) (w' : World) =>
 ∃ (x : Int),
 e = Ending.returned (Value.int IntKind.i64 x) ∧
 KeptL [n_2] W w' ∧
 bsp (x != 0) (R (Ending.returned (Value.tuple #[Value.slice none 0 0, Value.int IntKind.i64 x])) w')
 (CallsS Tryz.prog 28
 #[Value.agg #[Value.slice p n c, Value.slice p_1 n_1 c_1], Value.slice q k d,
 Value.int IntKind.i64 now, Value.int IntKind.i64 budget]
 w' fun (e : Ending) (w'_1 : World) =>
 ∃ (x : Option Addr),
 e = Ending.returned (Value.pointer x) ∧
 KeptL [n_2] w' w'_1 ∧
 ∃ (I : List Value → World → Prop),
 ∃ (m : List Value → World → Nat),
 I [Value.slice none 0 0] w'_1 ∧
 ∀ (p_2 : Option Addr) (n_3 c_2 : Nat) (w' : World),
 I [Value.slice p_2 n_3 c_2] w' →
 Loc w.heap.size [Blk.mk n_2 74 [Value.slice p n c, Value.slice p_1 n_1 c_1] 0] w' w' →
 CallsS Tryz.prog 29 #[Value.pointer x] w' fun (e : Ending) (w'_2 : World) =>
 ∃ (f : Nat → Int),
 ∃ (x : Int),
 ∃ (x_1 : Bool),
 e =
 Ending.returned
 (Value.tuple
 #[Value.agg
 (arrI IntKind.u8 f 32 0 ++ [Value.int IntKind.i64 x]).toArray,
 Value.bool x_1]) ∧
 KeptL [n_2] w' w'_2 ∧
 ∀ (n_4 : Nat),
 bsp (!x_1)
 (∀ (W : World),
 Loc w.heap.size
 [Blk.mk n_2 74 [Value.slice p n c, Value.slice p_1 n_1 c_1] 0,
 Blk.mk n_4 53
 (arrI IntKind.u8 f 32 0 ++ [Value.int IntKind.i64 x])
 (wrM 2)]
 w'_2 W →
 R
 (Ending.returned
 (Value.tuple #[Value.slice p_2 n_3 c_2, Value.int IntKind.i64 0]))
 W)
 (∀ (n_5 : Nat) (W : World),
 Loc w.heap.size
 [Blk.mk n_2 74 [Value.slice p n c, Value.slice p_1 n_1 c_1] 0,
 Blk.mk n_5 53
 (arrI IntKind.u8 f 32 0 ++ [Value.int IntKind.i64 x])
 2,
 Blk.mk n_4 53
 (arrI IntKind.u8 f 32 0 ++ [Value.int IntKind.i64 x])
 (wrM 2)]
 w'_2 W →
 ∃ (base : Nat),
 ∃ (xs : List Value),
 W.ownsRow base 53 33 (Value.slice p_2 n_3 c_2) n_3 xs ∧
 n_3 + 1 ≤ 9223372036854775807 ∧
 (n_3 + 1) * 40 ≤ 140737488355328 ∧
 base ≤ W.heap.size ∧
 ∀ (p' : Option Addr) (c' : Nat) (w'_3 : World),
 w'_3.ownsRow base 53 33 (Value.slice p' (n_3 + 1) c') (n_3 + 1)
 (xs ++
 (arrI IntKind.u8 f 32 0 ++ [Value.int IntKind.i64 x])) →
 W.grownBy w'_3 (Value.slice p_2 n_3 c_2).ownBlock →
 (n_3 + 1 ≤ c_2 → p' = p_2 ∧ c' = c_2) →
 KeptL [n_2, n_4] W w'_3 ∧
 I [Value.slice p' (n_3 + 1) c'] w'_3 ∧
 m [Value.slice p' (n_3 + 1) c'] w'_3 <
 m [Value.slice p_2 n_3 c_2] w'))))
theorem vc_eplan (p : Option Addr) (n : Nat) (c : Nat) (q : Option Addr) (k : Nat) (d : Nat) (now : Int) (budget : Int) (w : World) (R : Ending → World → Prop) (h : VC_eplan p n c q k d now budget w R) : Calls Tryz.prog 12 ([Value.slice
    p n c,
  Value.slice q k d, Value.int IntKind.i64 now, Value.int IntKind.i64 budget] : List Value).toArray w R := by
  have e : execR2 { P := Tryz.prog, loops := [(11, [(14, Ck.slice)])], pur := pur2, tails := [], joins := [], boxes := [] } Tryz.f12.results.toList R (Tryz.f12.body.getD .skip) (initF [Value.slice
    p n c,
  Value.slice q k d, Value.int IntKind.i64 now,
  Value.int IntKind.i64
    budget] (Tryz.f12.ntmps - ([Value.slice p n c, Value.slice q k d, Value.int IntKind.i64 now,
  Value.int IntKind.i64 budget] : List Value).length)) w = VC_eplan p n c q k d now budget w R := by kernel_rfl
  have hb : Tryz.f12.body = some (Tryz.f12.body.getD .skip) := by kernel_rfl
  exact calls_of_exec2' (P := Tryz.prog) (fn := Tryz.f12) (c := Tryz.f12.body.getD .skip) (args := [Value.slice p n c,
  Value.slice q k d, Value.int IntKind.i64 now,
  Value.int IntKind.i64 budget]) (w := w) (R := R) pur2_ok Tryz.func12 hb e h

end Go.Proofs.YtmjanmffnblcoaaGreatDoor
