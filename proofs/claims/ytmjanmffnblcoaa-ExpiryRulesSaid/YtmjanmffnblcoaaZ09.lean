/- The formulas of functions by the symbolic evaluator, and that each gives the call's contract. Written by a program (gen.py). No condition. -/
import Derived.Test.YtmjanmffnblcoaaProg
import Derived.Test.YtmjanmffnblcoaaZ02
import Derived.Test.YtmjanmffnblcoaaZ08
import Derived.Test.YtmjanmffnblcoaaZ04
import Derived.KernelRfl
namespace Go.Proofs.Ytmjanmffnblcoaa
set_option maxRecDepth 100000
set_option linter.unusedVariables false

def VC_echeckA (p : Option Addr) (n : Nat) (c : Nat) (w : World) (R : Ending → World → Prop) : Prop :=
 ∀ (n_1 : Nat) (w1 : World),
 NewB w (Obj.map #[] 0) n_1 w1 →
 KeptL [] w w1 ∧
 ∃ (I : List Value → World → Prop),
 ∃ (m : List Value → World → Nat),
 I [Value.int IntKind.i64 0] w1 ∧
 ∀ (x : Int) (w' : World),
 I [Value.int IntKind.i64 x] w' →
 bsp (decide (x < (↑n : Int)))
 (nn true p fun (b o : Nat) =>
 (0 ≤ x ∧ x < (↑n : Int)) ∧
 ∃ (f : Nat → Int),
 ∃ (x_1 : Int),
 ∃ (x_2 : Int),
 ∃ (p : Option Addr),
 ∃ (n : Nat),
 ∃ (c : Nat),
 ∃ (x_3 : Int),
 ∃ (x_4 : Int),
 ∃ (p_1 : Option Addr),
 ∃ (n_2 : Nat),
 ∃ (c_1 : Nat),
 ∃ (x_5 : Bool),
 AtL w' b (o + x.toNat * 39)
 (arrI IntKind.u8 f 32 0 ++ [Value.int IntKind.i64 x_1,
 Value.int IntKind.i64 x_2, Value.slice p n c, Value.int IntKind.i64 x_3,
 Value.int IntKind.i64 x_4, Value.slice p_1 n_2 c_1, Value.bool x_5]) ∧
 ∀ (n_3 : Nat),
 ∃ (x_6 : Int),
 gimp (!!minB x_1)
 (∀ (W : World),
 Loc w.heap.size
 [Blk.mk n_3 42
 (arrI IntKind.u8 f 32 0 ++ [Value.int IntKind.i64 x_1,
 Value.int IntKind.i64 x_2, Value.slice p n c, Value.int IntKind.i64 x_3,
 Value.int IntKind.i64 x_4, Value.slice p_1 n_2 c_1, Value.bool x_5])
 (wrM 2)]
 w' W →
 W.cell? (Addr.mk n_3 (0 + 33) none) = some (Value.int IntKind.i64 x_6)) ∧
 ∃ (x_7 : Int),
 gimp (!(!minB x_1 || !minB x_6))
 (∀ (W : World),
 Loc w.heap.size
 [Blk.mk n_3 42
 (arrI IntKind.u8 f 32 0 ++ [Value.int IntKind.i64 x_1, Value.int IntKind.i64 x_2,
 Value.slice p n c, Value.int IntKind.i64 x_3, Value.int IntKind.i64 x_4,
 Value.slice p_1 n_2 c_1, Value.bool x_5])
 (wrM 2)]
 w' W →
 W.cell? (Addr.mk n_3 (0 + 35) none) = some (Value.int IntKind.i64 x_7)) ∧
 ∃ (x_8 : Int),
 gimp (!(!minB x_1 || !minB x_6 || decide (x_7 < 0)))
 (∀ (W : World),
 Loc w.heap.size
 [Blk.mk n_3 42
 (arrI IntKind.u8 f 32 0 ++ [Value.int IntKind.i64 x_1, Value.int IntKind.i64 x_2, Value.slice p n c,
 Value.int IntKind.i64 x_3, Value.int IntKind.i64 x_4, Value.slice p_1 n_2 c_1,
 Value.bool x_5])
 (wrM 2)]
 w' W →
 W.cell? (Addr.mk n_3 (0 + 35) none) = some (Value.int IntKind.i64 x_8)) ∧
 ∃ (x_9 : Int),
 gimp (!(!minB x_1 || !minB x_6 || decide (x_7 < 0) || decide (x_8 > 1099511627776)))
 (∀ (W : World),
 Loc w.heap.size
 [Blk.mk n_3 42
 (arrI IntKind.u8 f 32 0 ++ [Value.int IntKind.i64 x_1, Value.int IntKind.i64 x_2, Value.slice p n c,
 Value.int IntKind.i64 x_3, Value.int IntKind.i64 x_4, Value.slice p_1 n_2 c_1,
 Value.bool x_5])
 (wrM 2)]
 w' W →
 W.cell? (Addr.mk n_3 (0 + 36) none) = some (Value.int IntKind.i64 x_9)) ∧
 ∃ (x_10 : Int),
 gimp
 (!(!minB x_1 || !minB x_6 || decide (x_7 < 0) || decide (x_8 > 1099511627776) ||
 decide (x_9 < 0)))
 (∀ (W : World),
 Loc w.heap.size
 [Blk.mk n_3 42
 (arrI IntKind.u8 f 32 0 ++ [Value.int IntKind.i64 x_1, Value.int IntKind.i64 x_2, Value.slice p n c,
 Value.int IntKind.i64 x_3, Value.int IntKind.i64 x_4, Value.slice p_1 n_2 c_1,
 Value.bool x_5])
 (wrM 2)]
 w' W →
 W.cell? (Addr.mk n_3 (0 + 36) none) = some (Value.int IntKind.i64 x_10)) ∧
 bsp
 (!minB x_1 || !minB x_6 || decide (x_7 < 0) || decide (x_8 > 1099511627776) ||
 decide (x_9 < 0) ||
 decide (x_10 > 5))
 (∀ (W : World),
 Loc w.heap.size
 [Blk.mk n_3 42
 (arrI IntKind.u8 f 32 0 ++ [Value.int IntKind.i64 x_1, Value.int IntKind.i64 x_2, Value.slice p n c,
 Value.int IntKind.i64 x_3, Value.int IntKind.i64 x_4, Value.slice p_1 n_2 c_1,
 Value.bool x_5])
 (wrM 2)]
 w' W →
 R (Ending.returned (Value.int IntKind.i64 2)) W)
 (∃ (x_11 : Bool),
 (∀ (W : World),
 Loc w.heap.size
 [Blk.mk n_3 42
 (arrI IntKind.u8 f 32 0 ++ [Value.int IntKind.i64 x_1, Value.int IntKind.i64 x_2, Value.slice p n c,
 Value.int IntKind.i64 x_3, Value.int IntKind.i64 x_4,
 Value.slice p_1 n_2 c_1, Value.bool x_5])
 (wrM 2)]
 w' W →
 LookP Try.prog 97 (Value.map (some n_1))
 (Value.agg
 (arrI IntKind.u8 f 32 0).toArray)
 false (Value.bool x_11) W) ∧
 bsp x_11
 (∀ (W : World),
 Loc w.heap.size
 [Blk.mk n_3 42
 (arrI IntKind.u8 f 32 0 ++ [Value.int IntKind.i64 x_1, Value.int IntKind.i64 x_2, Value.slice p n c,
 Value.int IntKind.i64 x_3, Value.int IntKind.i64 x_4,
 Value.slice p_1 n_2 c_1, Value.bool x_5])
 (wrM 2)]
 w' W →
 R (Ending.returned (Value.int IntKind.i64 7)) W)
 (∀ (W : World),
 Loc w.heap.size
 [Blk.mk n_3 42
 (arrI IntKind.u8 f 32 0 ++ [Value.int IntKind.i64 x_1, Value.int IntKind.i64 x_2, Value.slice p n c,
 Value.int IntKind.i64 x_3, Value.int IntKind.i64 x_4,
 Value.slice p_1 n_2 c_1, Value.bool x_5])
 (wrM 2)]
 w' W →
 ∃ (w1 : World),
 UpdP Try.prog 97 (Value.map (some n_1))
 (Value.agg
 (arrI IntKind.u8 f 32 0).toArray)
 (Value.bool true) W w1 ∧
 KeptL [n_3] W w1 ∧
 I [Value.int IntKind.i64 (IntKind.i64.wrap (x + 1))] w1 ∧
 m [Value.int IntKind.i64 (IntKind.i64.wrap (x + 1))] w1 <
 m [Value.int IntKind.i64 x] w')))
 (R (Ending.returned (Value.int IntKind.i64 0)) w')
theorem vc_echeckA (p : Option Addr) (n : Nat) (c : Nat) (w : World) (R : Ending → World → Prop) (h : VC_echeckA p n c w R) : Calls Try.prog 30 ([Value.slice
    p n c] : List Value).toArray w R := by
  have e : execR2 { P := Try.prog, loops := [(3, [(9, Ck.int IntKind.i64)])], pur := pur2, tails := [], joins := [], boxes := [] } Try.f30.results.toList R (Try.f30.body.getD .skip) (initF [Value.slice
    p n c] (Try.f30.ntmps - ([Value.slice p n c] : List Value).length)) w = VC_echeckA p n c w R := by kernel_rfl
  have hb : Try.f30.body = some (Try.f30.body.getD .skip) := by kernel_rfl
  exact calls_of_exec2' (P := Try.prog) (fn := Try.f30) (c := Try.f30.body.getD .skip) (args := [Value.slice p n
    c]) (w := w) (R := R) pur2_ok Try.func30 hb e h

def VC_enewP (p : Option Addr) (n : Nat) (c : Nat) (q : Option Addr) (k : Nat) (d : Nat) (p3 : Option Addr) (n3 : Nat) (c3 : Nat) (now : Int) (budget : Int) (w : World) (R : Ending → World → Prop) : Prop :=
 ∀ (n_1 : Nat) (W : World),
 Loc w.heap.size [Blk.mk n_1 72 [Value.slice p n c, Value.slice q k d] 2] w W →
 ∀ (n_2 : Nat) (w1 : World),
 NewB W (Obj.map #[] 0) n_2 w1 →
 KeptL [n_1] W w1 ∧
 ∀ (n_3 : Nat) (W : World),
 Loc w.heap.size
 [Blk.mk n_3 106
 [Value.slice none 0 0, Value.map (some n_2), Value.int IntKind.i64 0, Value.int IntKind.i64 budget] 2,
 Blk.mk n_1 72 [Value.slice p n c, Value.slice q k d] 0]
 w1 W →
 ∃ (I : List Value → World → Prop),
 ∃ (m : List Value → World → Nat),
 I [Value.int IntKind.i64 0] W ∧
 ∀ (x : Int) (w' : World),
 I [Value.int IntKind.i64 x] w' →
 Loc w.heap.size [Blk.mk n_1 72 [Value.slice p n c, Value.slice q k d] 0] w' w' →
 bsp (decide (x < (↑n3 : Int)))
 (nn true p3 fun (b o : Nat) =>
 (0 ≤ x ∧ x < (↑n3 : Int)) ∧
 ∃ (f : Nat → Int),
 ∃ (x_1 : Int),
 ∃ (x_2 : Int),
 ∃ (p_1 : Option Addr),
 ∃ (n_4 : Nat),
 ∃ (c_1 : Nat),
 ∃ (x_3 : Int),
 ∃ (x_4 : Int),
 ∃ (p_2 : Option Addr),
 ∃ (n_5 : Nat),
 ∃ (c_2 : Nat),
 ∃ (x_5 : Bool),
 AtL w' b (o + x.toNat * 39)
 (arrI IntKind.u8 f 32 0 ++ [Value.int IntKind.i64 x_1,
 Value.int IntKind.i64 x_2, Value.slice p_1 n_4 c_1, Value.int IntKind.i64 x_3,
 Value.int IntKind.i64 x_4, Value.slice p_2 n_5 c_2, Value.bool x_5]) ∧
 ∀ (n_6 : Nat) (W : World),
 Loc w.heap.size
 [Blk.mk n_1 72 [Value.slice p n c, Value.slice q k d] 0,
 Blk.mk n_6 42
 (arrI IntKind.u8 f 32 0 ++ [Value.int IntKind.i64 x_1,
 Value.int IntKind.i64 x_2, Value.slice p_1 n_4 c_1, Value.int IntKind.i64 x_3,
 Value.int IntKind.i64 x_4, Value.slice p_2 n_5 c_2, Value.bool x_5])
 (wrM 2)]
 w' W →
 CallsS Try.prog 38
 #[Value.agg #[Value.slice p n c, Value.slice q k d],
 Value.agg
 (arrI IntKind.u8 f 32 0 ++ [Value.int IntKind.i64 x_1, Value.int IntKind.i64 x_2,
 Value.slice p_1 n_4 c_1, Value.int IntKind.i64 x_3, Value.int IntKind.i64 x_4,
 Value.slice p_2 n_5 c_2, Value.bool x_5]).toArray]
 W fun (e : Ending) (w'_1 : World) =>
 ∃ (x_6 : Int),
 ∃ (x_7 : Int),
 e =
 Ending.returned
 (Value.tuple #[Value.int IntKind.i64 x_6, Value.int IntKind.i64 x_7]) ∧
 KeptL [n_1, n_6] W w'_1 ∧
 ∃ (J : List Value → World → Prop),
 (∀ (W : World),
 Loc w.heap.size
 [Blk.mk n_1 72 [Value.slice p n c, Value.slice q k d] 0,
 Blk.mk n_6 42
 (arrI IntKind.u8 f 32 0 ++ [Value.int IntKind.i64 x_1, Value.int IntKind.i64 x_2,
 Value.slice p_1 n_4 c_1, Value.int IntKind.i64 x_3,
 Value.int IntKind.i64 x_4, Value.slice p_2 n_5 c_2, Value.bool x_5])
 0]
 w'_1 W →
 ∃ (S : World → Prop),
 S W ∧
 ∃ (p : Option Addr),
 ∃ (n : Nat),
 ∃ (c : Nat),
 (∀ (w' : World),
 S w' → w'.cell? (Addr.mk n_3 0 none) = some (Value.slice p n c)) ∧
 ∃ (f : Nat → Int),
 ∃ (x : Int),
 ∃ (x_8 : Int),
 ∃ (p_3 : Option Addr),
 ∃ (n_7 : Nat),
 ∃ (c_3 : Nat),
 ∃ (x_9 : Int),
 ∃ (x_10 : Int),
 ∃ (p_4 : Option Addr),
 ∃ (n_8 : Nat),
 ∃ (c_4 : Nat),
 ∃ (x_11 : Bool),
 (∀ (w' : World),
 S w' →
 AtL w' n_6 0
 (arrI IntKind.u8 f 32 0 ++ [Value.int IntKind.i64 x, Value.int IntKind.i64 x_8,
 Value.slice p_3 n_7 c_3, Value.int IntKind.i64 x_9,
 Value.int IntKind.i64 x_10, Value.slice p_4 n_8 c_4,
 Value.bool x_11])) ∧
 ∃ (x_12 : Int),
 (∀ (w' : World),
 S w' →
 w'.cell? (Addr.mk n_6 (0 + 36) none) =
 some (Value.int IntKind.i64 x_12)) ∧
 ∃ (x_13 : Int),
 (∀ (w' : World),
 S w' →
 w'.cell? (Addr.mk n_6 (0 + 33) none) =
 some (Value.int IntKind.i64 x_13)) ∧
 ∃ (x_14 : Int),
 (∀ (w' : World),
 S w' →
 w'.cell? (Addr.mk n_6 (0 + 33) none) =
 some (Value.int IntKind.i64 x_14)) ∧
 S W ∧
 ∃ (f_1 : Nat → Int),
 ∃ (x_15 : Int),
 ∃ (x_16 : Int),
 ∃ (p_5 : Option Addr),
 ∃ (n_9 : Nat),
 ∃ (c_5 : Nat),
 ∃ (x_17 : Int),
 ∃ (x_18 : Int),
 ∃ (p_6 : Option Addr),
 ∃ (n_10 : Nat),
 ∃ (c_6 : Nat),
 ∃ (x_19 : Bool),
 gimp (!permC x_12)
 (∀ (w' : World),
 S w' →
 AtL w' n_6 0
 (arrI IntKind.u8 f_1 32 0 ++ [Value.int IntKind.i64 x_15,
 Value.int IntKind.i64 x_16,
 Value.slice p_5 n_9 c_5,
 Value.int IntKind.i64 x_17,
 Value.int IntKind.i64 x_18,
 Value.slice p_6 n_10 c_6,
 Value.bool x_19])) ∧
 bsp (!permC x_12)
 (CallsS Try.prog 49
 #[Value.agg
 (arrI IntKind.u8 f_1 32 0 ++ [Value.int IntKind.i64 x_15,
 Value.int IntKind.i64 x_16,
 Value.slice p_5 n_9 c_5,
 Value.int IntKind.i64 x_17,
 Value.int IntKind.i64 x_18,
 Value.slice p_6 n_10 c_6,
 Value.bool x_19]).toArray]
 W fun (e : Ending) (w' : World) =>
 ∃ (x_20 : Bool),
 e =
 Ending.returned (Value.bool x_20) ∧
 S w' ∧
 ∃ (f_2 : Nat → Int),
 ∃ (x_21 : Int),
 ∃ (x_22 : Int),
 ∃ (p_7 : Option Addr),
 ∃ (n_11 : Nat),
 ∃ (c_7 : Nat),
 ∃ (x_23 : Int),
 ∃ (x_24 : Int),
 ∃ (p_8 : Option Addr),
 ∃ (n_12 : Nat),
 ∃ (c_8 : Nat),
 ∃ (x_25 : Bool),
 gimp (!false && x_20)
 (∀ (w' : World),
 S w' →
 AtL w' n_6 0
 (arrI IntKind.u8 f_2 32 0 ++ [Value.int
 IntKind.i64 x_21,
 Value.int
 IntKind.i64 x_22,
 Value.slice p_7
 n_11 c_7,
 Value.int
 IntKind.i64 x_23,
 Value.int
 IntKind.i64 x_24,
 Value.slice p_8
 n_12 c_8,
 Value.bool
 x_25])) ∧
 bsp x_20
 (CallsS Try.prog 50
 #[Value.agg
 (arrI IntKind.u8 f_2 32 0 ++ [Value.int
 IntKind.i64 x_21,
 Value.int
 IntKind.i64 x_22,
 Value.slice p_7
 n_11 c_7,
 Value.int
 IntKind.i64 x_23,
 Value.int
 IntKind.i64 x_24,
 Value.slice p_8
 n_12 c_8,
 Value.bool x_25]).toArray]
 w'
 fun (e : Ending)
 (w' : World) =>
 ∃ (x_26 : Int),
 e =
 Ending.returned
 (Value.int
 IntKind.i64
 x_26) ∧
 S w' ∧
 ∀ (n_13 : Nat)
 (w1 : World),
 NewB w'
 (Obj.cells
 (arrI IntKind.u8 f 32 0 ++ [Value.int
 IntKind.i64
 x,
 Value.int
 IntKind.i64
 x_8,
 Value.slice
 p_3 n_7 c_3,
 Value.int
 IntKind.i64
 x_9,
 Value.int
 IntKind.i64
 x_10,
 Value.slice
 p_4 n_8 c_4,
 Value.bool
 x_11,
 Value.bool
 (false ||
 true &&
 decide
 (now ≤
 x_26)),
 Value.bool
 (decide
 (now ≥
 IntKind.i64.wrap
 (x_13 +
 IntKind.i64.wrap
 (x_7 *
 1440)))),
 Value.bool
 (decide
 (now ≥
 IntKind.i64.wrap
 (x_14 +
 IntKind.i64.wrap
 (x_6 *
 1440))))]).toArray
 109)
 n_13 w1 →
 S w1 ∧
 ∃ (base : Nat),
 ∃ (xs :
 List Value),
 ∃ (news :
 List Value),
 w1.ownsRow
 base 109
 42
 (Value.slice
 p n c)
 n xs ∧
 news.length =
 42 ∧
 SrcP w1
 (some
 (Addr.mk
 n_13 0
 none))
 news ∧
 n + 1 ≤
 9223372036854775807 ∧
 (n +
 1) *
 128 ≤
 140737488355328 ∧
 base ≤
 w1.heap.size ∧
 ∀
 (p' :
 Option
 Addr)
 (c' :
 Nat)
 (w' :
 World),
 w'.ownsRow
 base
 109
 42
 (Value.slice
 p'
 (n +
 1)
 c')
 (n +
 1)
 (xs ++
 news) →
 w1.grownBy
 w'
 (Value.slice
 p
 n
 c).ownBlock →
 (n +
 1 ≤
 c →
 p' =
 p ∧
 c' =
 c) →
 ((∃
 (u
 :
 Value),
 w'.cell?
 (Addr.mk
 n_3
 0
 none) =
 some
 u) ∧
 w'.frozen?
 (Addr.mk
 n_3
 0
 none) =
 false) ∧
 ∀
 (w1 :
 World),
 PutB
 w'
 n_3
 0
 [Value.slice
 p'
 (n +
 1)
 c']
 w1 →
 KeptL
 [n_1,
 n_6]
 W
 w1 ∧
 J
 []
 w1)
 (S w' ∧
 ∀ (n_13 : Nat)
 (w1 : World),
 NewB w'
 (Obj.cells
 (arrI IntKind.u8 f 32 0 ++ [Value.int
 IntKind.i64 x,
 Value.int
 IntKind.i64
 x_8,
 Value.slice p_3
 n_7 c_3,
 Value.int
 IntKind.i64
 x_9,
 Value.int
 IntKind.i64
 x_10,
 Value.slice p_4
 n_8 c_4,
 Value.bool x_11,
 Value.bool
 (false ||
 false),
 Value.bool
 (decide
 (now ≥
 IntKind.i64.wrap
 (x_13 +
 IntKind.i64.wrap
 (x_7 *
 1440)))),
 Value.bool
 (decide
 (now ≥
 IntKind.i64.wrap
 (x_14 +
 IntKind.i64.wrap
 (x_6 *
 1440))))]).toArray
 109)
 n_13 w1 →
 S w1 ∧
 ∃ (base : Nat),
 ∃ (xs :
 List Value),
 ∃ (news :
 List Value),
 w1.ownsRow base
 109 42
 (Value.slice
 p n c)
 n xs ∧
 news.length =
 42 ∧
 SrcP w1
 (some
 (Addr.mk
 n_13 0
 none))
 news ∧
 n + 1 ≤
 9223372036854775807 ∧
 (n + 1) *
 128 ≤
 140737488355328 ∧
 base ≤
 w1.heap.size ∧
 ∀
 (p' :
 Option
 Addr)
 (c' :
 Nat)
 (w' :
 World),
 w'.ownsRow
 base
 109 42
 (Value.slice
 p'
 (n +
 1)
 c')
 (n +
 1)
 (xs ++
 news) →
 w1.grownBy
 w'
 (Value.slice
 p n
 c).ownBlock →
 (n +
 1 ≤
 c →
 p' =
 p ∧
 c' =
 c) →
 ((∃
 (u
 :
 Value),
 w'.cell?
 (Addr.mk
 n_3
 0
 none) =
 some
 u) ∧
 w'.frozen?
 (Addr.mk
 n_3
 0
 none) =
 false) ∧
 ∀
 (w1 :
 World),
 PutB
 w'
 n_3
 0
 [Value.slice
 p'
 (n +
 1)
 c']
 w1 →
 KeptL
 [n_1,
 n_6]
 W
 w1 ∧
 J
 []
 w1))
 (S W ∧
 S W ∧
 ∀ (n_11 : Nat) (w1 : World),
 NewB W
 (Obj.cells
 (arrI IntKind.u8 f 32 0 ++ [Value.int IntKind.i64 x,
 Value.int IntKind.i64 x_8,
 Value.slice p_3 n_7 c_3,
 Value.int IntKind.i64 x_9,
 Value.int IntKind.i64 x_10,
 Value.slice p_4 n_8 c_4,
 Value.bool x_11, Value.bool true,
 Value.bool
 (decide
 (now ≥
 IntKind.i64.wrap
 (x_13 +
 IntKind.i64.wrap
 (x_7 * 1440)))),
 Value.bool
 (decide
 (now ≥
 IntKind.i64.wrap
 (x_14 +
 IntKind.i64.wrap
 (x_6 * 1440))))]).toArray
 109)
 n_11 w1 →
 S w1 ∧
 ∃ (base : Nat),
 ∃ (xs : List Value),
 ∃ (news : List Value),
 w1.ownsRow base 109 42
 (Value.slice p n c) n xs ∧
 news.length = 42 ∧
 SrcP w1
 (some (Addr.mk n_11 0 none))
 news ∧
 n + 1 ≤ 9223372036854775807 ∧
 (n + 1) * 128 ≤
 140737488355328 ∧
 base ≤ w1.heap.size ∧
 ∀ (p' : Option Addr)
 (c' : Nat) (w' : World),
 w'.ownsRow base 109 42
 (Value.slice p' (n + 1)
 c')
 (n + 1) (xs ++ news) →
 w1.grownBy w'
 (Value.slice p n
 c).ownBlock →
 (n + 1 ≤ c →
 p' = p ∧ c' = c) →
 ((∃ (u : Value),
 w'.cell?
 (Addr.mk n_3 0
 none) =
 some u) ∧
 w'.frozen?
 (Addr.mk n_3 0
 none) =
 false) ∧
 ∀ (w1 : World),
 PutB w' n_3 0
 [Value.slice p'
 (n + 1) c']
 w1 →
 KeptL [n_1, n_6] W
 w1 ∧
 J [] w1)) ∧
 ∀ (w'_2 : World),
 J [] w'_2 →
 Loc w.heap.size
 [Blk.mk n_1 72 [Value.slice p n c, Value.slice q k d] 0,
 Blk.mk n_6 42
 (arrI IntKind.u8 f 32 0 ++ [Value.int IntKind.i64 x_1, Value.int IntKind.i64 x_2,
 Value.slice p_1 n_4 c_1, Value.int IntKind.i64 x_3,
 Value.int IntKind.i64 x_4, Value.slice p_2 n_5 c_2, Value.bool x_5])
 0]
 w'_2 w'_2 →
 ∃ (x_8 : Option Nat),
 (∀ (W : World),
 Loc w.heap.size
 [Blk.mk n_1 72 [Value.slice p n c, Value.slice q k d] 0,
 Blk.mk n_6 42
 (arrI IntKind.u8 f 32 0 ++ [Value.int IntKind.i64 x_1, Value.int IntKind.i64 x_2,
 Value.slice p_1 n_4 c_1, Value.int IntKind.i64 x_3,
 Value.int IntKind.i64 x_4, Value.slice p_2 n_5 c_2, Value.bool x_5])
 0]
 w'_2 W →
 W.cell? (Addr.mk n_3 (0 + 1) none) = some (Value.map x_8)) ∧
 ∀ (W : World),
 Loc w.heap.size
 [Blk.mk n_1 72 [Value.slice p n c, Value.slice q k d] 0,
 Blk.mk n_6 42
 (arrI IntKind.u8 f 32 0 ++ [Value.int IntKind.i64 x_1, Value.int IntKind.i64 x_2,
 Value.slice p_1 n_4 c_1, Value.int IntKind.i64 x_3,
 Value.int IntKind.i64 x_4, Value.slice p_2 n_5 c_2, Value.bool x_5])
 0]
 w'_2 W →
 ∃ (w1 : World),
 UpdP Try.prog 97 (Value.map x_8)
 (Value.agg
 (arrI IntKind.u8 f 32 0).toArray)
 (Value.bool true) W w1 ∧
 KeptL [n_1, n_6] W w1 ∧
 ∃ (x_9 : Int),
 (∀ (W : World),
 Loc w.heap.size
 [Blk.mk n_1 72 [Value.slice p n c, Value.slice q k d] 0,
 Blk.mk n_6 42
 (arrI IntKind.u8 f 32 0 ++ [Value.int IntKind.i64 x_1, Value.int IntKind.i64 x_2,
 Value.slice p_1 n_4 c_1, Value.int IntKind.i64 x_3,
 Value.int IntKind.i64 x_4, Value.slice p_2 n_5 c_2,
 Value.bool x_5])
 0]
 w1 W →
 W.cell? (Addr.mk n_3 (0 + 2) none) =
 some (Value.int IntKind.i64 x_9)) ∧
 ∀ (W : World),
 Loc w.heap.size
 [Blk.mk n_1 72 [Value.slice p n c, Value.slice q k d] 0,
 Blk.mk n_6 42
 (arrI IntKind.u8 f 32 0 ++ [Value.int IntKind.i64 x_1, Value.int IntKind.i64 x_2,
 Value.slice p_1 n_4 c_1, Value.int IntKind.i64 x_3,
 Value.int IntKind.i64 x_4, Value.slice p_2 n_5 c_2,
 Value.bool x_5])
 0]
 w1 W →
 ((∃ (u : Value), W.cell? (Addr.mk n_3 (0 + 2) none) = some u) ∧
 W.frozen? (Addr.mk n_3 (0 + 2) none) = false) ∧
 ∀ (w1 : World),
 PutB W n_3 (0 + 2)
 [Value.int IntKind.i64 (IntKind.i64.wrap (x_9 + x_3))] w1 →
 KeptL [n_1, n_6] W w1 ∧
 I [Value.int IntKind.i64 (IntKind.i64.wrap (x + 1))] w1 ∧
 m [Value.int IntKind.i64 (IntKind.i64.wrap (x + 1))] w1 <
 m [Value.int IntKind.i64 x] w')
 (∃ (p : Option Addr),
 ∃ (n : Nat),
 ∃ (c : Nat),
 w'.cell? (Addr.mk n_3 0 none) = some (Value.slice p n c) ∧
 CallsS Try.prog 51 #[Value.slice p n c, Value.func (Fn.func 52) #[] #[]] w'
 fun (e : Ending) (w'_1 : World) =>
 e = Ending.returned (Value.tuple #[]) ∧
 KeptL [n_1] w' w'_1 ∧ R (Ending.returned (Value.pointer (some (Addr.mk n_3 0 none)))) w'_1)
theorem vc_enewP (p : Option Addr) (n : Nat) (c : Nat) (q : Option Addr) (k : Nat) (d : Nat) (p3 : Option Addr) (n3 : Nat) (c3 : Nat) (now : Int) (budget : Int) (w : World) (R : Ending → World → Prop) (h : VC_enewP p n c q k d p3 n3 c3 now budget w R) : Calls Try.prog 31 ([Value.agg
    #[Value.slice p n c, Value.slice q k d],
  Value.slice p3 n3 c3, Value.int IntKind.i64 now, Value.int IntKind.i64 budget] : List Value).toArray w R := by
  have e : execR2 { P := Try.prog, loops := [(3, [(20, Ck.int IntKind.i64)])], pur := pur2, tails := [(6, 11), (7, 6), (8, 9)], joins := [(7, [])], boxes := [] } Try.f31.results.toList R (Try.f31.body.getD .skip) (initF [Value.agg
    #[Value.slice p n c, Value.slice q k d],
  Value.slice p3 n3 c3, Value.int IntKind.i64 now,
  Value.int IntKind.i64
    budget] (Try.f31.ntmps - ([Value.agg #[Value.slice p n c, Value.slice q k d], Value.slice p3 n3 c3,
  Value.int IntKind.i64 now,
  Value.int IntKind.i64 budget] : List Value).length)) w = VC_enewP p n c q k d p3 n3 c3 now budget w R := by kernel_rfl
  have hb : Try.f31.body = some (Try.f31.body.getD .skip) := by kernel_rfl
  exact calls_of_exec2' (P := Try.prog) (fn := Try.f31) (c := Try.f31.body.getD .skip) (args := [Value.agg
    #[Value.slice p n c, Value.slice q k d],
  Value.slice p3 n3 c3, Value.int IntKind.i64 now,
  Value.int IntKind.i64 budget]) (w := w) (R := R) pur2_ok Try.func31 hb e h

end Go.Proofs.Ytmjanmffnblcoaa

/- Chapter 42: the contracts of checkArticles and newPlanner. No condition but sizes. -/
namespace Go.Proofs.Ytmjanmffnblcoaa
open Go.RowKit Go.Sort Go.Maps

/-! ### checkArticles -/
def arBad (a : Ar) : Bool := !minB a.date || !minB a.ar || decide (a.by_ < 0) || decide (a.by_ > 1099511627776) || decide (a.ct < 0) || decide (a.ct > 5)
/-- The first error of articles; these identities lie ahead. -/
def errA : List (List Int) → List Ar → Int
  | _, [] => 0
  | seen, a :: l => if arBad a = true then 2 else if a.id ∈ seen then 7 else errA (seen ++ [a.id]) l
def trues (l : List (List Int)) : List (List Int × Value) := l.map fun x => (x, Value.bool true)
theorem aholds_any (x : AX) (w : World) : Calls Try.prog 49 #[.agg (axC x).toArray] w fun e w' => e = .returned (.bool (x.ct != 0 || decide ((x.hs.length : Int) > 0))) ∧ K0 w w' := by
  refine vc_aholds x.id x.dt x.ar x.gp x.gs.length x.gc x.by_ x.ct x.hp x.hs.length x.hc x.wd w _ ?_
  intro n
  exact ⟨x.hp, x.hs.length, x.hc, gimp_intro fun _ W hW => cell_at (hW.cells 0 rfl) rfl, fun W hW => ⟨rfl, hW.kk rfl⟩⟩
theorem lastHeld_any (x : AX) (w : World) : Calls Try.prog 50 #[.agg (axC x).toArray] w fun e w' => e = .returned (.int .i64 (IntKind.i64.wrap (x.dt + 20160))) ∧ K0 w w' := by
  refine vc_lastHeld x.id x.dt x.ar x.gp x.gs.length x.gc x.by_ x.ct x.hp x.hs.length x.hc x.wd w _ ?_
  intro n W hW
  exact ⟨rfl, hW.kk rfl⟩
theorem byA_idI (f : Nat → Int) : byA (idI f) = .agg (arrI .u8 f 32 0).toArray := rfl
theorem aget_tr {l : List (List Int)} {a : List Int} (h : a ∈ l) : aget (trues l) a = some (Value.bool true) := by unfold trues; rw [aget_trues, if_pos h]
theorem aget_fa {l : List (List Int)} {a : List Int} (h : a ∉ l) : aget (trues l) a = none := by unfold trues; rw [aget_trues, if_neg h]
set_option maxHeartbeats 1000000 in
theorem echeckA_any (l : List AX) (p : Option Addr) (c : Nat) (w : World) (hR : RowA axC 39 w p l) (hl : l.length ≤ 1048576) (hb : ∀ x ∈ l, ∀ j, 0 ≤ x.id j ∧ x.id j ≤ 255) :
    Calls Try.prog 30 #[.slice p l.length c] w fun e w' => e = .returned (.int .i64 (errA [] (l.map AX.pl))) ∧ K0 w w' := by
  refine vc_echeckA p l.length c w _ ?_
  intro n1 w1 hn1
  have k1 : K0 w w1 := hn1.kp _
  have g1 : w.heap.size ≤ n1 := hn1.ge
  refine ⟨.of_k0 k1, fun vs w' => ∃ (i : Nat) (seen : List (List Int)), vs = [.int .i64 (i : Int)] ∧ i ≤ l.length ∧ errA seen ((l.drop i).map AX.pl) = errA [] (l.map AX.pl) ∧ MapB Try.prog 38 byA w' n1 (trues seen) ∧ K0 w w',
    fun vs _ => (match vs with | .int _ x :: _ => l.length - x.toNat | _ => 0), ⟨0, [], rfl, by omega, rfl, hn1.map, k1⟩, ?_⟩
  rintro x w2 ⟨i, seen, hv, hi, he, hm, k2⟩
  simp only [List.cons.injEq, Value.int.injEq, true_and, and_true] at hv
  subst hv
  refine bsp_intro (fun hlt => ?_) (fun hge => ?_)
  · have hlt : i < l.length := by simp at hlt; omega
    obtain ⟨y, b, o, hy, rfl, hat⟩ := (hR.k0 k2).get hlt
    have hyb := hb y (List.mem_of_getElem? hy)
    have hdr : l.drop i = y :: l.drop (i + 1) := by
      rw [List.drop_eq_getElem_cons hlt]
      rw [List.getElem?_eq_getElem hlt] at hy
      simp at hy
      rw [hy]
    rw [hdr, List.map_cons] at he
    have he' : errA seen (y.pl :: (l.drop (i + 1)).map AX.pl) = if arBad y.pl = true then 2 else if y.pl.id ∈ seen then 7 else errA (seen ++ [y.pl.id]) ((l.drop (i + 1)).map AX.pl) := rfl
    rw [he'] at he
    show (0 ≤ (i : Int) ∧ (i : Int) < (l.length : Int)) ∧ _
    rw [Int.toNat_natCast]
    refine ⟨by omega, y.id, y.dt, y.ar, y.gp, y.gs.length, y.gc, y.by_, y.ct, y.hp, y.hs.length, y.hc, y.wd, hat, fun n3 => ?_⟩
    refine ⟨y.ar, gimp_intro fun _ W hW => cell_at (hW.cells 0 rfl) rfl, y.by_, gimp_intro fun _ W hW => cell_at (hW.cells 0 rfl) rfl, y.by_, gimp_intro fun _ W hW => cell_at (hW.cells 0 rfl) rfl, y.ct, gimp_intro fun _ W hW => cell_at (hW.cells 0 rfl) rfl, y.ct, gimp_intro fun _ W hW => cell_at (hW.cells 0 rfl) rfl, ?_⟩
    refine bsp_intro (fun hbad W hW => ?_) (fun hgood => ?_)
    · have hbad : arBad y.pl = true := hbad
      rw [if_pos hbad] at he
      exact ⟨by rw [← he], k2.trans (hW.kk rfl)⟩
    · have hgood : arBad y.pl = false := hgood
      rw [if_neg (by simp [hgood])] at he
      have hkey := idKey (idI_len y.id) (idI_bd hyb)
      refine ⟨decide (idI y.id ∈ seen), fun W hW => ?_, bsp_intro (fun hin W hW => ?_) (fun hin W hW => ?_)⟩
      · have hm' := hm.kp (hW.kk rfl) (fun h => h)
        have := MapB.look byA_inj hm' idKeyed Try.underlying97 (zeroBool W) hkey false
        simp only at this
        by_cases h : idI y.id ∈ seen
        · rw [aget_tr h] at this
          rw [decide_eq_true h]
          exact this
        · rw [aget_fa h] at this
          rw [decide_eq_false h]
          exact this
      · have hin : y.pl.id ∈ seen := of_decide_eq_true hin
        rw [if_pos hin] at he
        exact ⟨by rw [← he], k2.trans (hW.kk rfl)⟩
      · have hin : y.pl.id ∉ seen := of_decide_eq_false hin
        rw [if_neg hin] at he
        have kW : K0 w2 W := hW.kk rfl
        have hm' := hm.kp kW (fun h => h)
        obtain ⟨w3, hu, hm3, k3⟩ := MapB.upd byA_inj hm' idKeyed Try.underlying97 hkey (.bool true)
        have hn3 : n3 ≠ n1 := by
          have h1 := hm'.lt
          have h2 := hW.fresh 0 rfl rfl
          have h3 := hm.lt
          simp only at h2
          omega
        refine ⟨w3, hu, .of_kp k3 (fun m hmm => by simp at hmm; omega), ⟨i + 1, seen ++ [y.pl.id], by rw [inc64 (by omega)], hlt, he, ?_, Kp.fresh (k2.trans kW) k3 (fun j hj e => by omega)⟩, by rw [inc64 (by omega)]; simp only [Int.toNat_natCast]; omega⟩
        have e : aset (trues seen) (idI y.id) (Value.bool true) = trues (seen ++ [y.pl.id]) := by
          rw [aset_new (fun p hp => ?_)]
          · unfold trues; rw [List.map_append]; rfl
          · obtain ⟨z, hz, rfl⟩ := List.mem_map.1 hp
            intro h
            simp only at h
            rw [h] at hz
            exact hin hz
        rw [← e]
        exact hm3
  · have hi : i = l.length := by simp at hge; omega
    rw [hi, List.drop_length] at he
    exact ⟨by rw [← he]; rfl, k2⟩

/-! ### newPlanner -/
def idX (y : CX) : List Int := idI y.a.id
/-- A planner in the memory; its map holds these identities. -/
structure PlR (w0 w : World) (b : Nat) (p : Option Addr) (c mb : Nat) (tot budget : Int) (l : List CX) (ids : List (List Int)) : Prop where
  blk : w.heap[b]? = some (.cells #[.slice p l.length c, .map (some mb), .int .i64 tot, .int .i64 budget] 106 (0, 0))
  own : w.ownsRow w0.heap.size 109 42 (.slice p l.length c) l.length (l.flatMap cxC)
  map : ∃ ml, MapB Try.prog 38 byA w mb ml ∧ ∀ i, (i ∈ ids → aget ml i = some (Value.bool true)) ∧ (i ∉ ids → aget ml i = none)
  art : ∀ y ∈ l, AXR w0 y.a
  k0 : K0 w0 w
  hb : w0.heap.size ≤ b
  hmb : w0.heap.size ≤ mb
theorem PlR.kp {w0 w w' : World} {b : Nat} {p : Option Addr} {c mb : Nat} {tot budget : Int} {l : List CX} {ids : List (List Int)} {M : Nat → Prop} (h : PlR w0 w b p c mb tot budget l ids) (hk : Kp M w w') (h1 : ¬ M b) (h2 : ∀ k, (Value.slice p l.length c).ownBlock = some k → ¬ M k) (h3 : ¬ M mb) (h0 : K0 w0 w') : PlR w0 w' b p c mb tot budget l ids := by
  obtain ⟨ml, hm, hi⟩ := h.map
  exact ⟨hk.blk h.blk h1, owns_kp h.own hk h2, ⟨ml, hm.kp hk h3, hi⟩, h.art, h0, h.hb, h.hmb⟩
theorem PlR.k {w0 w w' : World} {b : Nat} {p : Option Addr} {c mb : Nat} {tot budget : Int} {l : List CX} {ids : List (List Int)} (h : PlR w0 w b p c mb tot budget l ids) (hk : K0 w w') : PlR w0 w' b p c mb tot budget l ids :=
  h.kp hk (fun h => h) (fun _ _ h => h) (fun h => h) (h.k0.trans hk)
def mkC (L : List Rl) (now : Int) (x : AX) : CX := ⟨x, fixB now x.pl, overB L now x.pl, mayB L now x.pl⟩
/-- Articles as checkArticles lets them by. -/
structure ArOK (x : AX) : Prop where
  dt : 0 ≤ x.dt ∧ x.dt ≤ 105190559
  ar : 0 ≤ x.ar ∧ x.ar ≤ 105190559
  by_ : 0 ≤ x.by_ ∧ x.by_ ≤ 1099511627776
  ct : 0 ≤ x.ct ∧ x.ct ≤ 5
  gl : x.gs.length ≤ 1048576
  gz : ∀ z ∈ x.gs, z.size ≤ 9223372036854775807
  hl : x.hs.length ≤ 1048576
  id : ∀ j, 0 ≤ x.id j ∧ x.id j ≤ 255
  hs : ∀ h ∈ x.hs, ∀ j, 0 ≤ h j ∧ h j ≤ 255
def sumB (l : List AX) : Int := (l.map (·.by_)).sum
theorem sumB_snoc (l : List AX) (x : AX) : sumB (l ++ [x]) = sumB l + x.by_ := by
  unfold sumB
  rw [List.map_append, List.sum_append]
  simp
theorem sumB_bd : ∀ (l : List AX), (∀ x ∈ l, 0 ≤ x.by_ ∧ x.by_ ≤ 1099511627776) → 0 ≤ sumB l ∧ sumB l ≤ l.length * 1099511627776
  | [], _ => by simp [sumB]
  | x :: l, h => by
    have ih := sumB_bd l (fun y hy => h y (by simp [hy]))
    have := h x (by simp)
    have e : sumB (x :: l) = x.by_ + sumB l := by simp [sumB]
    rw [e, List.length_cons]
    omega

end Go.Proofs.Ytmjanmffnblcoaa

/- Chapter 42: the contract of newPlanner. No condition but sizes. -/
namespace Go.Proofs.Ytmjanmffnblcoaa
open Go.RowKit Go.Sort Go.Maps

theorem own_not {w : World} {base : Nat} {e t : TypeId} {size : Nat} {v : Value} {n : Nat} {xs : List Value} (h : w.ownsRow base e size v n xs) {k : Nat} {c : Array Value} {f : Nat × Nat} (hk : w.heap[k]? = some (.cells c t f)) (hne : (t == e) = false) : ¬ v.ownBlock = some k := fun he => by
  obtain ⟨c', h1⟩ := own_type h he
  rw [hk] at h1
  simp at h1
  rw [h1.2.1] at hne
  simp at hne
theorem own_notMap {w : World} {base : Nat} {e : TypeId} {size : Nat} {v : Value} {n : Nat} {xs : List Value} (h : w.ownsRow base e size v n xs) {k cl : Nat} {es : Array MapEntry} (hk : w.heap[k]? = some (.map es cl)) : ¬ v.ownBlock = some k := fun he => by
  obtain ⟨c', h1⟩ := own_type h he
  rw [hk] at h1
  simp at h1
theorem blk_ne {w : World} {a b : Nat} {c c' : Array Value} {t t' : TypeId} {f f' : Nat × Nat} (h : w.heap[a]? = some (.cells c t f)) (h' : w.heap[b]? = some (.cells c' t' f')) (hne : (t == t') = false) : a ≠ b := fun e => by
  subst e
  rw [h] at h'
  simp at h'
  rw [h'.2.1] at hne
  simp at hne
theorem blk_neMap {w : World} {a b cl : Nat} {c : Array Value} {t : TypeId} {f : Nat × Nat} {es : Array MapEntry} (h : w.heap[a]? = some (.cells c t f)) (h' : w.heap[b]? = some (.map es cl)) : a ≠ b := fun e => by
  subst e
  rw [h] at h'
  simp at h'
theorem cell_wr2 {w : World} {b o : Nat} {c : Array Value} {t : TypeId} {v : Value} (h : w.heap[b]? = some (.cells c t (0, 0))) (hv : c[o]? = some v) : (∃ u, w.cell? ⟨b, o, none⟩ = some u) ∧ w.frozen? ⟨b, o, none⟩ = false := ⟨⟨v, cell_at h hv⟩, frozen_block h _⟩
theorem PlR.mapAt {w0 w : World} {b : Nat} {p : Option Addr} {c mb : Nat} {tot budget : Int} {l : List CX} {ids : List (List Int)} (h : PlR w0 w b p c mb tot budget l ids) : ∃ es cl, w.heap[mb]? = some (.map es cl) := by
  obtain ⟨ml, hm, _⟩ := h.map
  obtain ⟨es, cl, h1, _⟩ := hm.blk
  exact ⟨es, cl, h1⟩

set_option maxHeartbeats 2000000 in
theorem enewP_any {N : Nat} (L : List Rl) (p : Option Addr) (c : Nat) (q : Option Addr) (d : Nat) (bs : List Nat) (l : List AX) (p3 : Option Addr) (c3 : Nat) (now budget : Int) (w : World)
    (hR : RowA rlC 3 w p L) (hP : RlsR N w q d L bs) (hb : bs.length = L.length) (hL : L.length ≤ 64) (hrl : ∀ r ∈ L, 0 ≤ r.lo ∧ r.lo ≤ r.hi ∧ r.hi ≤ 36500)
    (hA : RowA axC 39 w p3 l) (hX : ∀ x ∈ l, AXR w x) (hok : ∀ x ∈ l, ArOK x) (hl : l.length ≤ 1000) :
    Calls Try.prog 31 #[.agg #[.slice p L.length c, .slice q L.length d], .slice p3 l.length c3, .int .i64 now, .int .i64 budget] w fun e w' => ∃ (b : Nat) (p' : Option Addr) (c' mb : Nat) (hs : List CX),
      e = .returned (.pointer (some ⟨b, 0, none⟩)) ∧ PlR w w' b p' c' mb (sumB l) budget hs (l.map fun x => idI x.id) ∧ hs.Perm (l.map (mkC L now)) ∧ hs.Pairwise (fun x y => ¬ cfX y x < 0) := by
  refine vc_enewP p L.length c q L.length d p3 l.length c3 now budget w _ ?_
  intro n1 W hW n2 w1 hn2
  have kW : K0 w W := hW.kk rfl
  have k1 : K0 W w1 := hn2.kp _
  refine ⟨.of_k0 k1, fun n3 W3 hW3 => ?_⟩
  have k3 : K0 w1 W3 := hW3.kk rfl
  have kw3 : K0 w W3 := (kW.trans k1).trans k3
  have g2 : w.heap.size ≤ n2 := Nat.le_trans kW.size hn2.ge
  have g3 : w.heap.size ≤ n3 := hW3.le 0 rfl
  refine ⟨fun vs w' => ∃ (i : Nat) (p' : Option Addr) (c' : Nat), vs = [.int .i64 (i : Int)] ∧ i ≤ l.length ∧ PlR w w' n3 p' c' n2 (sumB (l.take i)) budget ((l.take i).map (mkC L now)) ((l.take i).map fun x => idI x.id),
    fun vs _ => (match vs with | .int _ x :: _ => l.length - x.toNat | _ => 0), ⟨0, none, 0, rfl, by omega, hW3.cells 0 rfl, World.ownsRow_nil _ _ _ _, ⟨[], hn2.map.kp k3 (fun h => h), fun i => ⟨(fun h => by cases h), fun _ => rfl⟩⟩, (fun y hy => by cases hy), kw3, g3, g2⟩, ?_⟩
  rintro x w4 ⟨i, p', c', hv, hi, hpl⟩ hL4
  simp only [List.cons.injEq, Value.int.injEq, true_and, and_true] at hv
  subst hv
  have kw4 := hpl.k0
  have hlen : ((l.take i).map (mkC L now)).length = i := by rw [List.length_map, List.length_take]; omega
  refine bsp_intro (fun hlt => ?_) (fun hge => ?_)
  · have hlt : i < l.length := by simp at hlt; omega
    obtain ⟨y, b, o, hy, rfl, hat⟩ := (hA.k0 kw4).get hlt
    have hyl := List.mem_of_getElem? hy
    have oky := hok y hyl
    have htk : l.take (i + 1) = l.take i ++ [y] := take_snoc hy
    show (0 ≤ (i : Int) ∧ (i : Int) < (l.length : Int)) ∧ _
    rw [Int.toNat_natCast]
    refine ⟨by omega, y.id, y.dt, y.ar, y.gp, y.gs.length, y.gc, y.by_, y.ct, y.hp, y.hs.length, y.hc, y.wd, hat, fun n6 W6 hW6 => ?_⟩
    have k46 : K0 w4 W6 := hW6.kk rfl
    have kw6 : K0 w W6 := kw4.trans k46
    refine ⟨(edays_any L p c q d bs y W6 (hR.k0 kw6) (hP.k0 kw6) hb hL ((hX y hyl).gs.k0 kw6) oky.gl oky.gz).mono fun e w7 ⟨he, k67⟩ => ⟨_, _, he, .of_k0 k67, ?_⟩⟩
    have hdb := daysR_bd hrl y.gs
    refine ⟨fun vs w' => vs = [] ∧ ∃ (p' : Option Addr) (c' : Nat), PlR w w' n3 p' c' n2 (sumB (l.take i)) budget ((l.take (i + 1)).map (mkC L now)) ((l.take i).map fun x => idI x.id), fun W7 hW7 => ?_, ?_⟩
    · have k7 : K0 w7 W7 := hW7.kk rfl
      have k47 : K0 w4 W7 := (k46.trans k67).trans k7
      have kw7 : K0 w W7 := kw4.trans k47
      have hpl7 := hpl.k k47
      have hb3 := hpl7.blk
      rw [hlen] at hb3
      have ho7 := hpl7.own
      rw [hlen] at ho7
      have hbn1 := hW7.cells 0 rfl
      have hbn6 := hW7.cells 1 rfl
      have eat : ∀ {wx : World}, K0 W7 wx → AtL wx n6 0 (axC y) := fun hk => AtL_block (hk.blk hbn6 (fun h => h)) rfl
      obtain ⟨es, cl, hmb⟩ := hpl7.mapAt
      -- one candidate more
      have app : ∀ (v : List Value), v = cxC (mkC L now y) → ∀ (wx : World), K0 W7 wx → ∀ (n13 : Nat) (wn : World), NewB wx (.cells v.toArray 109) n13 wn → K0 W7 wn ∧
          ∃ (base : Nat) (xs news : List Value), wn.ownsRow base 109 42 (.slice p' i c') i xs ∧ news.length = 42 ∧ SrcP wn (some (Addr.mk n13 0 none)) news ∧ i + 1 ≤ 9223372036854775807 ∧ (i + 1) * 128 ≤ 140737488355328 ∧ base ≤ wn.heap.size ∧
            ∀ (p'' : Option Addr) (c'' : Nat) (w' : World), w'.ownsRow base 109 42 (.slice p'' (i + 1) c'') (i + 1) (xs ++ news) → wn.grownBy w' (Value.slice p' i c').ownBlock → (i + 1 ≤ c' → p'' = p' ∧ c'' = c') →
              ((∃ (u : Value), w'.cell? (Addr.mk n3 0 none) = some u) ∧ w'.frozen? (Addr.mk n3 0 none) = false) ∧ ∀ (wp : World), PutB w' n3 0 [Value.slice p'' (i + 1) c''] wp → KeptL [n1, n6] W7 wp ∧
                (([] : List Value) = [] ∧ ∃ (p' : Option Addr) (c' : Nat), PlR w wp n3 p' c' n2 (sumB (l.take i)) budget ((l.take (i + 1)).map (mkC L now)) ((l.take i).map fun x => idI x.id)) := by
        intro v hv wx kx n13 wn hn
        have kn : K0 W7 wn := kx.trans (hn.kp _)
        refine ⟨kn, ?_⟩
        have hox := owns_kp ho7 kx (fun _ _ h => h)
        refine app1 hox (Nat.le_trans kw7.size kx.size) hn (by rw [hv]; exact cxC_length _) (by rw [hv]; exact cxC_one _) (by omega) (by omega) (fun p'' c'' w' ho' hk' _ => ?_)
        have kk : Kp (fun k => (Value.slice p' i c').ownBlock = some k) W7 w' := Kp.trans (kx.mono (fun _ _ h => h.elim)) hk'
        have n3r : ¬ (Value.slice p' i c').ownBlock = some n3 := own_not ho7 hb3 rfl
        have hb3' := kk.blk hb3 n3r
        have kwp : K0 w w' := Kp.fresh kw7 kk (fun j hj e => by have := own_ge ho7 e; omega)
        refine ⟨cell_wr2 hb3' rfl, fun wp hp => ⟨?_, rfl, p'', c'', ?_⟩⟩
        · refine .of_kp (M := fun k => (Value.slice p' i c').ownBlock = some k ∨ k = n3) ((kk.mono fun _ _ h => .inl h).trans (hp.kp.mono fun _ _ h => .inr h)) (fun m hm => ?_)
          simp only [List.mem_cons, List.not_mem_nil, or_false] at hm
          rcases hm with rfl | rfl
          · rintro (h | h)
            · exact own_not ho7 hbn1 rfl h
            · exact blk_ne hbn1 hb3 rfl h
          · rintro (h | h)
            · exact own_not ho7 hbn6 rfl h
            · exact blk_ne hbn6 hb3 rfl h
        · have hcs : (l.take (i + 1)).map (mkC L now) = (l.take i).map (mkC L now) ++ [mkC L now y] := by rw [htk, List.map_append]; rfl
          have hl1 : ((l.take (i + 1)).map (mkC L now)).length = i + 1 := by rw [hcs, List.length_append, hlen]; rfl
          have n2r : ¬ (Value.slice p' i c').ownBlock = some n2 := own_notMap ho7 hmb
          have n23 : n3 ≠ n2 := blk_neMap hb3 hmb
          refine ⟨by rw [hp.block hb3', hl1]; rfl, ?_, ?_, ?_, put_k0 kwp hp g3, g3, g2⟩
          · rw [hl1, hcs, List.flatMap_append]
            have := owns_kp ho' hp.kp (fun k hk e => by
              subst e
              exact own_not ho' hb3' rfl hk)
            rw [hv] at this
            simpa using this
          · obtain ⟨ml, hm, hi'⟩ := hpl7.map
            exact ⟨ml, (hm.kp kk n2r).kp hp.kp (fun e => n23 e.symm), hi'⟩
          · intro z hz
            rw [hcs] at hz
            rcases List.mem_append.1 hz with h | h
            · exact hpl7.art z h
            · simp at h
              subst h
              exact hX y hyl
      have hS : ∀ {wx : World}, K0 W7 wx → wx.cell? ⟨n3, 0, none⟩ = some (.slice p' i c') := fun hk => cell_at (hk.blk hb3 (fun h => h)) rfl
      have ov : decide (now ≥ IntKind.i64.wrap (y.ar + IntKind.i64.wrap ((daysR L y.gs).2 * 1440))) = overB L now y.pl := by
        have h1 := oky.ar
        rw [wr64 (x := (daysR L y.gs).2 * 1440) (by omega) (by omega), wr64 (by omega) (by omega)]
        rfl
      have my : decide (now ≥ IntKind.i64.wrap (y.ar + IntKind.i64.wrap ((daysR L y.gs).1 * 1440))) = mayB L now y.pl := by
        have h1 := oky.ar
        rw [wr64 (x := (daysR L y.gs).1 * 1440) (by omega) (by omega), wr64 (by omega) (by omega)]
        rfl
      refine ⟨fun w' => K0 W7 w', .refl _ _, p', i, c', fun wx hk => hS hk, y.id, y.dt, y.ar, y.gp, y.gs.length, y.gc, y.by_, y.ct, y.hp, y.hs.length, y.hc, y.wd, fun wx hk => eat hk, y.ct, fun wx hk => cell_at (hk.blk hbn6 (fun h => h)) rfl, y.ar, fun wx hk => cell_at (hk.blk hbn6 (fun h => h)) rfl, y.ar, fun wx hk => cell_at (hk.blk hbn6 (fun h => h)) rfl, .refl _ _, y.id, y.dt, y.ar, y.gp, y.gs.length, y.gc, y.by_, y.ct, y.hp, y.hs.length, y.hc, y.wd, gimp_intro fun _ wx hk => eat hk, ?_⟩
      have fixE : fixB now y.pl = (permC y.ct || ((y.ct != 0 || decide ((y.hs.length : Int) > 0)) && decide (now ≤ y.dt + 20160))) := by
        unfold fixB
        have e : (!(y.pl.holds).isEmpty) = decide ((y.hs.length : Int) > 0) := by
          show (!((y.hs.map idI).isEmpty)) = _
          cases y.hs <;> simp
        rw [e]
        rfl
      refine bsp_intro (fun hperm => ?_) (fun hperm => ?_)
      · have hperm : permC y.ct = false := by simpa using hperm
        refine ⟨(aholds_any y W7).mono fun e w8 ⟨he, k8⟩ => ⟨_, he, k8, y.id, y.dt, y.ar, y.gp, y.gs.length, y.gc, y.by_, y.ct, y.hp, y.hs.length, y.hc, y.wd, gimp_intro fun _ wx hk => eat hk, ?_⟩⟩
        refine bsp_intro (fun hh => ?_) (fun hh => ?_)
        · refine ⟨(lastHeld_any y w8).mono fun e w9 ⟨he, k9⟩ => ⟨_, he, k8.trans k9, fun n13 wn hn => app _ ?_ w9 (k8.trans k9) n13 wn hn⟩⟩
          have h2 := oky.dt
          rw [ov, my, wr64 (x := y.dt + 20160) (by omega) (by omega)]
          unfold cxC mkC
          simp only [fixE, hperm, hh, Bool.false_or, Bool.true_and]
        · refine ⟨k8, fun n13 wn hn => app _ ?_ w8 k8 n13 wn hn⟩
          rw [ov, my]
          unfold cxC mkC
          simp only [fixE, hperm, hh, Bool.false_or, Bool.false_and]
      · have hperm : permC y.ct = true := by simpa using hperm
        refine ⟨.refl _ _, .refl _ _, fun n13 wn hn => app _ ?_ W7 (.refl _ _) n13 wn hn⟩
        rw [ov, my]
        unfold cxC mkC
        simp only [fixE, hperm, Bool.true_or]
    · -- the map and the bytes
      rintro w8 ⟨-, p8, c8, hpl8⟩ hL8
      have hb8 := hpl8.blk
      refine ⟨some n2, fun W9 hW9 => cell_at ((hW9.kk rfl).blk hb8 (fun h => h)) rfl, fun W9 hW9 => ?_⟩
      have k9 : K0 w8 W9 := hW9.kk rfl
      have hpl9 := hpl8.k k9
      obtain ⟨ml, hm9, hmi⟩ := hpl9.map
      obtain ⟨es, cl, hmb⟩ := hpl9.mapAt
      obtain ⟨w10, hu, hm10, k10⟩ := MapB.upd byA_inj hm9 idKeyed Try.underlying97 (idKey (idI_len y.id) (idI_bd oky.id)) (.bool true)
      have hbn1 := hW9.cells 0 rfl
      have hbn6 := hW9.cells 1 rfl
      have hb9 := hpl9.blk
      have hb10 := k10.blk hb9 (blk_neMap hb9 hmb)
      refine ⟨w10, hu, .of_kp k10 (fun m hmm => ?_), sumB (l.take i), fun W11 hW11 => cell_at ((hW11.kk rfl).blk hb10 (fun h => h)) rfl, fun W11 hW11 => ?_⟩
      · simp only [List.mem_cons, List.not_mem_nil, or_false] at hmm
        rcases hmm with rfl | rfl
        · exact blk_neMap hbn1 hmb
        · exact blk_neMap hbn6 hmb
      have k11 : K0 w10 W11 := hW11.kk rfl
      have hb11 := k11.blk hb10 (fun h => h)
      refine ⟨cell_wr2 hb11 rfl, fun w12 hp => ?_⟩
      have n23 : n3 ≠ n2 := blk_neMap hb9 hmb
      have kw10 : K0 w w10 := Kp.fresh hpl9.k0 k10 (fun j hj e => by omega)
      have kw11 : K0 w W11 := kw10.trans k11
      have hbd := sumB_bd (l.take i) (fun x hx => (hok x (List.mem_of_mem_take hx)).by_)
      have hli : (l.take i).length = i := by rw [List.length_take]; omega
      have hbyy := oky.by_
      have hn1' := hW11.cells 0 rfl
      have hn6' := hW11.cells 1 rfl
      refine ⟨put_kept hp (fun m hmm => ?_), ⟨i + 1, p8, c8, by rw [inc64 (by omega)], hlt, ?_⟩, by rw [inc64 (by omega)]; simp only [Int.toNat_natCast]; omega⟩
      · simp only [List.mem_cons, List.not_mem_nil, or_false] at hmm
        rcases hmm with rfl | rfl
        · exact blk_ne hn1' hb11 rfl
        · exact blk_ne hn6' hb11 rfl
      refine ⟨?_, ?_, ?_, hpl8.art, put_k0 kw11 hp g3, g3, g2⟩
      · rw [hp.block hb11, htk, sumB_snoc, wr64 (by rw [hli] at hbd; omega) (by rw [hli] at hbd; omega)]
        rfl
      · have h1 := owns_kp hpl9.own k10 (fun k hk e => by subst e; exact own_notMap hpl9.own hmb hk)
        have h2 := owns_kp h1 k11 (fun _ _ h => h)
        exact owns_kp h2 hp.kp (fun k hk e => by subst e; exact own_not h2 hb11 rfl hk)
      · refine ⟨_, (hm10.kp k11 (fun h => h)).kp hp.kp (fun e => n23 e.symm), fun j => ?_⟩
        rw [aget_aset, htk, List.map_append]
        obtain ⟨m1, m2⟩ := hmi j
        refine ⟨fun hj => ?_, fun hj => ?_⟩
        · by_cases e : idI y.id = j
          · rw [if_pos e]
          · rw [if_neg e]
            refine m1 ?_
            rcases List.mem_append.1 hj with h | h
            · exact h
            · simp at h; exact absurd h.symm e
        · have h1 : ¬ idI y.id = j := fun e => hj (List.mem_append_right _ (by simp [e]))
          rw [if_neg h1]
          exact m2 fun h => hj (List.mem_append_left _ h)
  · have hi : i = l.length := by simp at hge; omega
    subst hi
    rw [List.take_length] at hpl
    have ho := hpl.own
    refine ⟨p', _, c', cell_at hpl.blk rfl, ?_⟩
    refine ⟨(esort_any (l.map (mkC L now)) p' c' w4 ho (by rw [List.length_map]; omega)).mono fun e w5 ⟨he, cs', hperm, hsrt, ho5, k5⟩ => ⟨he, ?_, n3, p', c', n2, cs', rfl, ?_, hperm, hsrt⟩⟩
    · exact .of_kp k5 (fun m hm => by
        simp at hm
        subst hm
        exact own_not ho (hL4.cells 0 rfl) rfl)
    · obtain ⟨ml, hm, hmi⟩ := hpl.map
      obtain ⟨es, cl, hmb⟩ := hpl.mapAt
      have hbl := k5.blk hpl.blk (own_not ho hpl.blk rfl)
      rw [← hperm.length_eq] at hbl
      exact ⟨hbl, ho5, ⟨ml, hm.kp k5 (own_notMap ho hmb), hmi⟩, fun z hz => hpl.art z (hperm.mem_iff.1 hz), Kp.fresh kw4 k5 (fun j hj e => by have := own_ge ho e; omega), g3, g2⟩

end Go.Proofs.Ytmjanmffnblcoaa
