/- The formulas of functions by the symbolic evaluator, and that each gives the call's contract. Written by a program (gen.py). No condition. -/
import Derived.Test.YtfacflbmlfbeeaaGreatDoorProg
import Derived.Test.YtfacflbmlfbeeaaGreatDoorZ02
import Derived.Test.YtfacflbmlfbeeaaGreatDoorZ04
import Derived.Test.YtfacflbmlfbeeaaGreatDoorZ03
import Derived.KernelRfl
import Derived.Test.YtfacflbmlfbeeaaGreatDoorZ05
namespace Go.Proofs.YtfacflbmlfbeeaaGreatDoor
set_option maxRecDepth 100000
set_option linter.unusedVariables false

def VC_minf (p : Option Addr) (n : Nat) (c : Nat) (f : FuncId) (fa : Array Value) (fb : Array Value) (w : World) (R : Ending → World → Prop) : Prop :=
 ∀ (n_1 : Nat),
 bsp (decide ((↑n : Int) < 1)) False
 (nn true p fun (b o : Nat) =>
 ((0 : Int) ≤ 0 ∧ 0 < (↑n : Int)) ∧
 ∃ (f_1 : Nat → Int),
 ∃ (x : ByteArray),
 ∃ (x_1 : ByteArray),
 ∃ (x_2 : Int),
 ∃ (x_3 : Int),
 ∃ (f_2 : Nat → Int),
 ∃ (x_4 : Int),
 ∃ (x_5 : ByteArray),
 (∀ (W : World),
 Loc w.heap.size
 [Blk.mk n_1 48
 [Value.int IntKind.u8 0, Value.int IntKind.u8 0, Value.int IntKind.u8 0, Value.int IntKind.u8 0,
 Value.int IntKind.u8 0, Value.int IntKind.u8 0, Value.int IntKind.u8 0, Value.int IntKind.u8 0,
 Value.int IntKind.u8 0, Value.int IntKind.u8 0, Value.int IntKind.u8 0, Value.int IntKind.u8 0,
 Value.int IntKind.u8 0, Value.int IntKind.u8 0, Value.int IntKind.u8 0, Value.int IntKind.u8 0,
 Value.int IntKind.u8 0, Value.int IntKind.u8 0, Value.int IntKind.u8 0, Value.int IntKind.u8 0,
 Value.int IntKind.u8 0, Value.int IntKind.u8 0, Value.int IntKind.u8 0, Value.int IntKind.u8 0,
 Value.int IntKind.u8 0, Value.int IntKind.u8 0, Value.int IntKind.u8 0, Value.int IntKind.u8 0,
 Value.int IntKind.u8 0, Value.int IntKind.u8 0, Value.int IntKind.u8 0, Value.int IntKind.u8 0,
 Value.string (ByteArray.mk #[]), Value.string (ByteArray.mk #[]), Value.int IntKind.i64 0,
 Value.int IntKind.i64 0, Value.int IntKind.u8 0, Value.int IntKind.u8 0, Value.int IntKind.u8 0,
 Value.int IntKind.u8 0, Value.int IntKind.u8 0, Value.int IntKind.u8 0, Value.int IntKind.u8 0,
 Value.int IntKind.u8 0, Value.int IntKind.u8 0, Value.int IntKind.u8 0, Value.int IntKind.u8 0,
 Value.int IntKind.u8 0, Value.int IntKind.u8 0, Value.int IntKind.u8 0, Value.int IntKind.u8 0,
 Value.int IntKind.u8 0, Value.int IntKind.i64 0, Value.string (ByteArray.mk #[])]
 2]
 w W →
 AtL W b o
 (arrI IntKind.u8 f_1 32 0 ++ ([Value.string x, Value.string x_1,
 Value.int IntKind.i64 x_2, Value.int IntKind.i64 x_3] ++ arrI IntKind.u8 f_2 16 0 ++ [Value.int IntKind.i64 x_4, Value.string x_5]))) ∧
 ∀ (n_2 : Nat) (W : World),
 Loc w.heap.size
 [Blk.mk n_2 48
 (arrI IntKind.u8 f_1 32 0 ++ ([Value.string x, Value.string x_1,
 Value.int IntKind.i64 x_2, Value.int IntKind.i64 x_3] ++ arrI IntKind.u8 f_2 16 0 ++ [Value.int IntKind.i64 x_4, Value.string x_5]))
 (wrM 2),
 Blk.mk n_1 48
 [Value.int IntKind.u8 0, Value.int IntKind.u8 0, Value.int IntKind.u8 0, Value.int IntKind.u8 0,
 Value.int IntKind.u8 0, Value.int IntKind.u8 0, Value.int IntKind.u8 0, Value.int IntKind.u8 0,
 Value.int IntKind.u8 0, Value.int IntKind.u8 0, Value.int IntKind.u8 0, Value.int IntKind.u8 0,
 Value.int IntKind.u8 0, Value.int IntKind.u8 0, Value.int IntKind.u8 0, Value.int IntKind.u8 0,
 Value.int IntKind.u8 0, Value.int IntKind.u8 0, Value.int IntKind.u8 0, Value.int IntKind.u8 0,
 Value.int IntKind.u8 0, Value.int IntKind.u8 0, Value.int IntKind.u8 0, Value.int IntKind.u8 0,
 Value.int IntKind.u8 0, Value.int IntKind.u8 0, Value.int IntKind.u8 0, Value.int IntKind.u8 0,
 Value.int IntKind.u8 0, Value.int IntKind.u8 0, Value.int IntKind.u8 0, Value.int IntKind.u8 0,
 Value.string (ByteArray.mk #[]), Value.string (ByteArray.mk #[]), Value.int IntKind.i64 0,
 Value.int IntKind.i64 0, Value.int IntKind.u8 0, Value.int IntKind.u8 0, Value.int IntKind.u8 0,
 Value.int IntKind.u8 0, Value.int IntKind.u8 0, Value.int IntKind.u8 0, Value.int IntKind.u8 0,
 Value.int IntKind.u8 0, Value.int IntKind.u8 0, Value.int IntKind.u8 0, Value.int IntKind.u8 0,
 Value.int IntKind.u8 0, Value.int IntKind.u8 0, Value.int IntKind.u8 0, Value.int IntKind.u8 0,
 Value.int IntKind.u8 0, Value.int IntKind.i64 0, Value.string (ByteArray.mk #[])]
 2]
 w W →
 ∃ (I : List Value → World → Prop),
 ∃ (m : List Value → World → Nat),
 I [Value.int IntKind.i64 1] W ∧
 ∀ (x : Int) (w' : World),
 I [Value.int IntKind.i64 x] w' →
 Loc w.heap.size
 [Blk.mk n_1 48
 [Value.int IntKind.u8 0, Value.int IntKind.u8 0, Value.int IntKind.u8 0, Value.int IntKind.u8 0,
 Value.int IntKind.u8 0, Value.int IntKind.u8 0, Value.int IntKind.u8 0, Value.int IntKind.u8 0,
 Value.int IntKind.u8 0, Value.int IntKind.u8 0, Value.int IntKind.u8 0, Value.int IntKind.u8 0,
 Value.int IntKind.u8 0, Value.int IntKind.u8 0, Value.int IntKind.u8 0, Value.int IntKind.u8 0,
 Value.int IntKind.u8 0, Value.int IntKind.u8 0, Value.int IntKind.u8 0, Value.int IntKind.u8 0,
 Value.int IntKind.u8 0, Value.int IntKind.u8 0, Value.int IntKind.u8 0, Value.int IntKind.u8 0,
 Value.int IntKind.u8 0, Value.int IntKind.u8 0, Value.int IntKind.u8 0, Value.int IntKind.u8 0,
 Value.int IntKind.u8 0, Value.int IntKind.u8 0, Value.int IntKind.u8 0, Value.int IntKind.u8 0,
 Value.string (ByteArray.mk #[]), Value.string (ByteArray.mk #[]), Value.int IntKind.i64 0,
 Value.int IntKind.i64 0, Value.int IntKind.u8 0, Value.int IntKind.u8 0,
 Value.int IntKind.u8 0, Value.int IntKind.u8 0, Value.int IntKind.u8 0, Value.int IntKind.u8 0,
 Value.int IntKind.u8 0, Value.int IntKind.u8 0, Value.int IntKind.u8 0, Value.int IntKind.u8 0,
 Value.int IntKind.u8 0, Value.int IntKind.u8 0, Value.int IntKind.u8 0, Value.int IntKind.u8 0,
 Value.int IntKind.u8 0, Value.int IntKind.u8 0, Value.int IntKind.i64 0,
 Value.string (ByteArray.mk #[])]
 0]
 w' w' →
 bsp (decide (x < (↑n : Int)))
 (nn true p fun (b o : Nat) =>
 (0 ≤ x ∧ x < (↑n : Int)) ∧
 ∃ (f_3 : Nat → Int),
 ∃ (x_6 : ByteArray),
 ∃ (x_7 : ByteArray),
 ∃ (x_8 : Int),
 ∃ (x_9 : Int),
 ∃ (f_4 : Nat → Int),
 ∃ (x_10 : Int),
 ∃ (x_11 : ByteArray),
 (∀ (W : World),
 Loc w.heap.size
 [Blk.mk n_1 48
 [Value.int IntKind.u8 0, Value.int IntKind.u8 0, Value.int IntKind.u8 0,
 Value.int IntKind.u8 0, Value.int IntKind.u8 0, Value.int IntKind.u8 0,
 Value.int IntKind.u8 0, Value.int IntKind.u8 0, Value.int IntKind.u8 0,
 Value.int IntKind.u8 0, Value.int IntKind.u8 0, Value.int IntKind.u8 0,
 Value.int IntKind.u8 0, Value.int IntKind.u8 0, Value.int IntKind.u8 0,
 Value.int IntKind.u8 0, Value.int IntKind.u8 0, Value.int IntKind.u8 0,
 Value.int IntKind.u8 0, Value.int IntKind.u8 0, Value.int IntKind.u8 0,
 Value.int IntKind.u8 0, Value.int IntKind.u8 0, Value.int IntKind.u8 0,
 Value.int IntKind.u8 0, Value.int IntKind.u8 0, Value.int IntKind.u8 0,
 Value.int IntKind.u8 0, Value.int IntKind.u8 0, Value.int IntKind.u8 0,
 Value.int IntKind.u8 0, Value.int IntKind.u8 0, Value.string (ByteArray.mk #[]),
 Value.string (ByteArray.mk #[]), Value.int IntKind.i64 0,
 Value.int IntKind.i64 0, Value.int IntKind.u8 0, Value.int IntKind.u8 0,
 Value.int IntKind.u8 0, Value.int IntKind.u8 0, Value.int IntKind.u8 0,
 Value.int IntKind.u8 0, Value.int IntKind.u8 0, Value.int IntKind.u8 0,
 Value.int IntKind.u8 0, Value.int IntKind.u8 0, Value.int IntKind.u8 0,
 Value.int IntKind.u8 0, Value.int IntKind.u8 0, Value.int IntKind.u8 0,
 Value.int IntKind.u8 0, Value.int IntKind.u8 0, Value.int IntKind.i64 0,
 Value.string (ByteArray.mk #[])]
 0]
 w' W →
 AtL W b (o + x.toNat * 54)
 (arrI IntKind.u8 f_3 32 0 ++ ([Value.string x_6,
 Value.string x_7, Value.int IntKind.i64 x_8, Value.int IntKind.i64 x_9] ++ arrI IntKind.u8 f_4 16 0 ++ [Value.int IntKind.i64 x_10, Value.string x_11]))) ∧
 ∃ (f_5 : Nat → Int),
 ∃ (x_12 : ByteArray),
 ∃ (x_13 : ByteArray),
 ∃ (x_14 : Int),
 ∃ (x_15 : Int),
 ∃ (f_6 : Nat → Int),
 ∃ (x_16 : Int),
 ∃ (x_17 : ByteArray),
 (∀ (W : World),
 Loc w.heap.size
 [Blk.mk n_1 48
 [Value.int IntKind.u8 0, Value.int IntKind.u8 0, Value.int IntKind.u8 0,
 Value.int IntKind.u8 0, Value.int IntKind.u8 0, Value.int IntKind.u8 0,
 Value.int IntKind.u8 0, Value.int IntKind.u8 0, Value.int IntKind.u8 0,
 Value.int IntKind.u8 0, Value.int IntKind.u8 0, Value.int IntKind.u8 0,
 Value.int IntKind.u8 0, Value.int IntKind.u8 0, Value.int IntKind.u8 0,
 Value.int IntKind.u8 0, Value.int IntKind.u8 0, Value.int IntKind.u8 0,
 Value.int IntKind.u8 0, Value.int IntKind.u8 0, Value.int IntKind.u8 0,
 Value.int IntKind.u8 0, Value.int IntKind.u8 0, Value.int IntKind.u8 0,
 Value.int IntKind.u8 0, Value.int IntKind.u8 0, Value.int IntKind.u8 0,
 Value.int IntKind.u8 0, Value.int IntKind.u8 0, Value.int IntKind.u8 0,
 Value.int IntKind.u8 0, Value.int IntKind.u8 0,
 Value.string (ByteArray.mk #[]), Value.string (ByteArray.mk #[]),
 Value.int IntKind.i64 0, Value.int IntKind.i64 0,
 Value.int IntKind.u8 0, Value.int IntKind.u8 0, Value.int IntKind.u8 0,
 Value.int IntKind.u8 0, Value.int IntKind.u8 0, Value.int IntKind.u8 0,
 Value.int IntKind.u8 0, Value.int IntKind.u8 0, Value.int IntKind.u8 0,
 Value.int IntKind.u8 0, Value.int IntKind.u8 0, Value.int IntKind.u8 0,
 Value.int IntKind.u8 0, Value.int IntKind.u8 0, Value.int IntKind.u8 0,
 Value.int IntKind.u8 0, Value.int IntKind.i64 0,
 Value.string (ByteArray.mk #[])]
 0]
 w' W →
 AtL W n_2 0
 (arrI IntKind.u8 f_5 32 0 ++ ([Value.string x_12, Value.string x_13, Value.int IntKind.i64 x_14,
 Value.int IntKind.i64 x_15] ++ arrI IntKind.u8 f_6 16 0 ++ [Value.int IntKind.i64 x_16,
 Value.string x_17]))) ∧
 ∀ (W : World),
 Loc w.heap.size
 [Blk.mk n_1 48
 [Value.int IntKind.u8 0, Value.int IntKind.u8 0, Value.int IntKind.u8 0,
 Value.int IntKind.u8 0, Value.int IntKind.u8 0, Value.int IntKind.u8 0,
 Value.int IntKind.u8 0, Value.int IntKind.u8 0, Value.int IntKind.u8 0,
 Value.int IntKind.u8 0, Value.int IntKind.u8 0, Value.int IntKind.u8 0,
 Value.int IntKind.u8 0, Value.int IntKind.u8 0, Value.int IntKind.u8 0,
 Value.int IntKind.u8 0, Value.int IntKind.u8 0, Value.int IntKind.u8 0,
 Value.int IntKind.u8 0, Value.int IntKind.u8 0, Value.int IntKind.u8 0,
 Value.int IntKind.u8 0, Value.int IntKind.u8 0, Value.int IntKind.u8 0,
 Value.int IntKind.u8 0, Value.int IntKind.u8 0, Value.int IntKind.u8 0,
 Value.int IntKind.u8 0, Value.int IntKind.u8 0, Value.int IntKind.u8 0,
 Value.int IntKind.u8 0, Value.int IntKind.u8 0,
 Value.string (ByteArray.mk #[]), Value.string (ByteArray.mk #[]),
 Value.int IntKind.i64 0, Value.int IntKind.i64 0,
 Value.int IntKind.u8 0, Value.int IntKind.u8 0, Value.int IntKind.u8 0,
 Value.int IntKind.u8 0, Value.int IntKind.u8 0, Value.int IntKind.u8 0,
 Value.int IntKind.u8 0, Value.int IntKind.u8 0, Value.int IntKind.u8 0,
 Value.int IntKind.u8 0, Value.int IntKind.u8 0, Value.int IntKind.u8 0,
 Value.int IntKind.u8 0, Value.int IntKind.u8 0, Value.int IntKind.u8 0,
 Value.int IntKind.u8 0, Value.int IntKind.i64 0,
 Value.string (ByteArray.mk #[])]
 0]
 w' W →
 ∃ (f_7 : Nat),
 ∃ (a : Array Value),
 ∃ (b : Array Value),
 Value.func (Fn.func f) fa fb = Value.func (Fn.func f_7) a b ∧
 okFn Tryz.prog f_7 = true ∧
 CallsS Tryz.prog f_7
 (appA a
 [Value.agg
 (arrI IntKind.u8 f_3 32 0 ++ ([Value.string x_6, Value.string x_7, Value.int IntKind.i64 x_8,
 Value.int IntKind.i64 x_9] ++ arrI IntKind.u8 f_4 16 0 ++ [Value.int IntKind.i64 x_10,
 Value.string x_11])).toArray,
 Value.agg
 (arrI IntKind.u8 f_5 32 0 ++ ([Value.string x_12, Value.string x_13, Value.int IntKind.i64 x_14,
 Value.int IntKind.i64 x_15] ++ arrI IntKind.u8 f_6 16 0 ++ [Value.int IntKind.i64 x_16,
 Value.string x_17])).toArray]
 b)
 W fun (e : Ending) (w'_1 : World) =>
 ∃ (x_18 : Int),
 e = Ending.returned (Value.int IntKind.i64 x_18) ∧
 KeptL [n_1] W w'_1 ∧
 bsp (decide (x_18 < 0))
 (nn true p fun (b o : Nat) =>
 (0 ≤ x ∧ x < (↑n : Int)) ∧
 ∃ (f : Nat → Int),
 ∃ (x_19 : ByteArray),
 ∃ (x_20 : ByteArray),
 ∃ (x_21 : Int),
 ∃ (x_22 : Int),
 ∃ (f_8 : Nat → Int),
 ∃ (x_23 : Int),
 ∃ (x_24 : ByteArray),
 AtL w'_1 b (o + x.toNat * 54)
 (arrI IntKind.u8 f 32 0 ++ ([Value.string x_19,
 Value.string x_20, Value.int IntKind.i64 x_21,
 Value.int IntKind.i64 x_22] ++ arrI IntKind.u8 f_8 16 0 ++ [Value.int IntKind.i64 x_23, Value.string x_24])) ∧
 WrL w'_1 n_2 0 54 ∧
 ∀ (w1 : World),
 PutB w'_1 n_2 0
 (arrI IntKind.u8 f 32 0 ++ ([Value.string x_19,
 Value.string x_20, Value.int IntKind.i64 x_21,
 Value.int IntKind.i64 x_22] ++ arrI IntKind.u8 f_8 16 0 ++ [Value.int IntKind.i64 x_23, Value.string x_24]))
 w1 →
 KeptL [n_1] w'_1 w1 ∧
 I
 [Value.int IntKind.i64
 (IntKind.i64.wrap (x + 1))]
 w1 ∧
 m
 [Value.int IntKind.i64
 (IntKind.i64.wrap (x + 1))]
 w1 <
 m [Value.int IntKind.i64 x] w')
 (I [Value.int IntKind.i64 (IntKind.i64.wrap (x + 1))] w'_1 ∧
 m [Value.int IntKind.i64 (IntKind.i64.wrap (x + 1))] w'_1 <
 m [Value.int IntKind.i64 x] w'))
 (∃ (f : Nat → Int),
 ∃ (x : ByteArray),
 ∃ (x_6 : ByteArray),
 ∃ (x_7 : Int),
 ∃ (x_8 : Int),
 ∃ (f_3 : Nat → Int),
 ∃ (x_9 : Int),
 ∃ (x_10 : ByteArray),
 AtL w' n_2 0
 (arrI IntKind.u8 f 32 0 ++ ([Value.string x,
 Value.string x_6, Value.int IntKind.i64 x_7, Value.int IntKind.i64 x_8] ++ arrI IntKind.u8 f_3 16 0 ++ [Value.int IntKind.i64 x_9, Value.string x_10])) ∧
 ∀ (W : World),
 Loc w.heap.size
 [Blk.mk n_1 48
 (arrI IntKind.u8 f 32 0 ++ ([Value.string x, Value.string x_6,
 Value.int IntKind.i64 x_7, Value.int IntKind.i64 x_8] ++ arrI IntKind.u8 f_3 16 0 ++ [Value.int IntKind.i64 x_9, Value.string x_10]))
 (wrM 0)]
 w' W →
 R
 (Ending.returned
 (Value.agg
 (arrI IntKind.u8 f 32 0 ++ ([Value.string x,
 Value.string x_6, Value.int IntKind.i64 x_7, Value.int IntKind.i64 x_8] ++ arrI IntKind.u8 f_3 16 0 ++ [Value.int IntKind.i64 x_9, Value.string x_10])).toArray))
 W))
theorem vc_minf (p : Option Addr) (n : Nat) (c : Nat) (f : FuncId) (fa : Array Value) (fb : Array Value) (w : World) (R : Ending → World → Prop) (h : VC_minf p n c f fa fb w R) : Calls Tryz.prog 78 ([Value.slice
    p n c,
  Value.func (Fn.func f) fa fb] : List Value).toArray w R := by
  have e : execR2 { P := Tryz.prog, loops := [(5, [(6, Ck.int IntKind.i64)])], pur := pur1, tails := [(7, 6)], joins := [], boxes := [] } Tryz.f78.results.toList R (Tryz.f78.body.getD .skip) (initF [Value.slice
    p n c,
  Value.func (Fn.func f) fa
    fb] (Tryz.f78.ntmps - ([Value.slice p n c,
  Value.func (Fn.func f) fa fb] : List Value).length)) w = VC_minf p n c f fa fb w R := by kernel_rfl
  have hb : Tryz.f78.body = some (Tryz.f78.body.getD .skip) := by kernel_rfl
  exact calls_of_exec2' (P := Tryz.prog) (fn := Tryz.f78) (c := Tryz.f78.body.getD .skip) (args := [Value.slice p n c,
  Value.func (Fn.func f) fa fb]) (w := w) (R := R) pur1_ok Tryz.func78 hb e h

def VC_acompact (p : Option Addr) (n : Nat) (c : Nat) (w : World) (R : Ending → World → Prop) : Prop :=
 bsp (decide ((↑n : Int) < 2)) (R (Ending.returned (Value.slice p n c)) w)
 (∃ (I : List Value → World → Prop),
 ∃ (m : List Value → World → Nat),
 I [Value.int IntKind.i64 1] w ∧
 ∀ (x : Int) (w' : World),
 I [Value.int IntKind.i64 x] w' →
 bsp (decide (x < (↑n : Int)))
 (nn true p fun (b o : Nat) =>
 (0 ≤ x ∧ x < (↑n : Int)) ∧
 ∃ (f : Nat → Int),
 (∀ (W : World),
 Loc w.heap.size [] w' W →
 AtL W b (o + x.toNat * 16)
 (arrI IntKind.u8 f 16 0)) ∧
 nn true p fun (b o : Nat) =>
 (0 ≤ IntKind.i64.wrap (x - 1) ∧ IntKind.i64.wrap (x - 1) < (↑n : Int)) ∧
 ∃ (f_1 : Nat → Int),
 (∀ (W : World),
 Loc w.heap.size [] w' W →
 AtL W b (o + (IntKind.i64.wrap (x - 1)).toNat * 16)
 (arrI IntKind.u8 f_1 16 0)) ∧
 ∃ (r : Bool),
 EqP Tryz.prog 45
 (Value.agg
 (arrI IntKind.u8 f 16 0).toArray)
 (Value.agg
 (arrI IntKind.u8 f_1 16 0).toArray)
 r ∧
 bsp r
 ((0 ≤ x ∧ x ≤ (↑n : Int)) ∧
 ∀ (W : World),
 Loc w.heap.size [] w' W →
 ∃ (I : List Value → World → Prop),
 ∃ (m : List Value → World → Nat),
 I [Value.int IntKind.i64 1, Value.int IntKind.i64 x] W ∧
 ∀ (x_1 x_2 : Int) (w' : World),
 I [Value.int IntKind.i64 x_1, Value.int IntKind.i64 x_2] w' →
 bsp (decide (x_1 < (↑(n - x.toNat) : Int)))
 (nn true (slA p c x.toNat 16) fun (b o : Nat) =>
 (0 ≤ x_1 ∧ x_1 < (↑(n - x.toNat) : Int)) ∧
 ∃ (f : Nat → Int),
 (∀ (W : World),
 Loc w.heap.size [] w' W →
 AtL W b (o + x_1.toNat * 16)
 (arrI IntKind.u8 f 16 0)) ∧
 nn true (slA p c x.toNat 16) fun (b o : Nat) =>
 (0 ≤ IntKind.i64.wrap (x_1 - 1) ∧ IntKind.i64.wrap (x_1 - 1) < (↑(n - x.toNat) : Int)) ∧
 ∃ (f_2 : Nat → Int),
 (∀ (W : World),
 Loc w.heap.size [] w' W →
 AtL W b (o + (IntKind.i64.wrap (x_1 - 1)).toNat * 16)
 (arrI IntKind.u8 f_2 16 0)) ∧
 ∃ (r : Bool),
 EqP Tryz.prog 45
 (Value.agg
 (arrI IntKind.u8 f 16 0).toArray)
 (Value.agg
 (arrI IntKind.u8 f_2 16 0).toArray)
 r ∧
 bsp (!r)
 (nn true (slA p c x.toNat 16) fun (b o : Nat) =>
 (0 ≤ x_1 ∧ x_1 < (↑(n - x.toNat) : Int)) ∧
 ∃ (f : Nat → Int),
 (∀ (W : World),
 Loc w.heap.size [] w' W →
 AtL W b (o + x_1.toNat * 16)
 (arrI IntKind.u8 f 16 0)) ∧
 nn true p fun (b o : Nat) =>
 (0 ≤ x_2 ∧ x_2 < (↑n : Int)) ∧
 ∀ (W : World),
 Loc w.heap.size [] w' W →
 WrL W b (o + x_2.toNat * 16) 16 ∧
 ∀ (w1 : World),
 PutB W b (o + x_2.toNat * 16)
 (arrI IntKind.u8 f 16 0)
 w1 →
 KeptL [] W w1 ∧
 I
 [Value.int IntKind.i64 (IntKind.i64.wrap (x_1 + 1)),
 Value.int IntKind.i64 (IntKind.i64.wrap (x_2 + 1))]
 w1 ∧
 m
 [Value.int IntKind.i64 (IntKind.i64.wrap (x_1 + 1)),
 Value.int IntKind.i64 (IntKind.i64.wrap (x_2 + 1))]
 w1 <
 m [Value.int IntKind.i64 x_1, Value.int IntKind.i64 x_2] w')
 (∀ (W : World),
 Loc w.heap.size [] w' W →
 I
 [Value.int IntKind.i64 (IntKind.i64.wrap (x_1 + 1)),
 Value.int IntKind.i64 x_2]
 W ∧
 m
 [Value.int IntKind.i64 (IntKind.i64.wrap (x_1 + 1)),
 Value.int IntKind.i64 x_2]
 W <
 m [Value.int IntKind.i64 x_1, Value.int IntKind.i64 x_2] w'))
 ((0 ≤ x_2 ∧ x_2 ≤ (↑n : Int)) ∧
 ∃ (w1 : World),
 BltP Tryz.prog Builtin.clear [28]
 [Value.slice (slA p c x_2.toNat 16) (n - x_2.toNat) (c - x_2.toNat)] w' w1 ∧
 KeptL [] w' w1 ∧
 (0 ≤ x_2 ∧ x_2 ≤ (↑c : Int)) ∧ R (Ending.returned (Value.slice p x_2.toNat c)) w1))
 (∀ (W : World),
 Loc w.heap.size [] w' W →
 I [Value.int IntKind.i64 (IntKind.i64.wrap (x + 1))] W ∧
 m [Value.int IntKind.i64 (IntKind.i64.wrap (x + 1))] W < m [Value.int IntKind.i64 x] w'))
 (R (Ending.returned (Value.slice p n c)) w'))
theorem vc_acompact (p : Option Addr) (n : Nat) (c : Nat) (w : World) (R : Ending → World → Prop) (h : VC_acompact p n c w R) : Calls Tryz.prog 74 ([Value.slice
    p n c] : List Value).toArray w R := by
  have e : execR2 { P := Tryz.prog, loops := [(4, [(3, Ck.int IntKind.i64)]), (9, [(5, Ck.int IntKind.i64), (3, Ck.int IntKind.i64)])], pur := pur1, tails := [], joins := [], boxes := [] } Tryz.f74.results.toList R (Tryz.f74.body.getD .skip) (initF [Value.slice
    p n c] (Tryz.f74.ntmps - ([Value.slice p n c] : List Value).length)) w = VC_acompact p n c w R := by kernel_rfl
  have hb : Tryz.f74.body = some (Tryz.f74.body.getD .skip) := by kernel_rfl
  exact calls_of_exec2' (P := Tryz.prog) (fn := Tryz.f74) (c := Tryz.f74.body.getD .skip) (args := [Value.slice p n
    c]) (w := w) (R := R) pur1_ok Tryz.func74 hb e h

def VC_avalues (p : Option Addr) (n : Nat) (c : Nat) (w : World) (R : Ending → World → Prop) : Prop :=
 ∀ (n_1 : Nat) (W : World),
 Loc w.heap.size [Blk.mk n_1 28 [Value.slice p n c] 2] w W →
 R (Ending.returned (Value.func (Fn.func 105) #[] #[Value.pointer (some (Addr.mk n_1 0 none))])) W
theorem vc_avalues (p : Option Addr) (n : Nat) (c : Nat) (w : World) (R : Ending → World → Prop) (h : VC_avalues p n c w R) : Calls Tryz.prog 72 ([Value.slice
    p n c] : List Value).toArray w R := by
  have e : execR2 { P := Tryz.prog, loops := [], pur := pur1, tails := [], joins := [], boxes := [] } Tryz.f72.results.toList R (Tryz.f72.body.getD .skip) (initF [Value.slice
    p n c] (Tryz.f72.ntmps - ([Value.slice p n c] : List Value).length)) w = VC_avalues p n c w R := by kernel_rfl
  have hb : Tryz.f72.body = some (Tryz.f72.body.getD .skip) := by kernel_rfl
  exact calls_of_exec2' (P := Tryz.prog) (fn := Tryz.f72) (c := Tryz.f72.body.getD .skip) (args := [Value.slice p n
    c]) (w := w) (R := R) pur1_ok Tryz.func72 hb e h

end Go.Proofs.YtfacflbmlfbeeaaGreatDoor

/- The formulas of functions by the symbolic evaluator, and that each gives the call's contract. Written by a program (gen.py). No condition. -/
namespace Go.Proofs.YtfacflbmlfbeeaaGreatDoor
set_option maxRecDepth 100000
set_option linter.unusedVariables false

def VC_acollect (f : FuncId) (fa : Array Value) (fb : Array Value) (w : World) (R : Ending → World → Prop) : Prop :=
 CallsS Tryz.prog 129 #[Value.slice none 0 0, Value.func (Fn.func f) fa fb] w fun (e : Ending) (w' : World) =>
 ∃ (p : Option Addr),
 ∃ (n : Nat),
 ∃ (c : Nat), e = Ending.returned (Value.slice p n c) ∧ KeptL [] w w' ∧ R (Ending.returned (Value.slice p n c)) w'
theorem vc_acollect (f : FuncId) (fa : Array Value) (fb : Array Value) (w : World) (R : Ending → World → Prop) (h : VC_acollect f fa fb w R) : Calls Tryz.prog 103 ([Value.func
    (Fn.func f) fa fb] : List Value).toArray w R := by
  have e : execR2 { P := Tryz.prog, loops := [], pur := pur1, tails := [], joins := [], boxes := [] } Tryz.f103.results.toList R (Tryz.f103.body.getD .skip) (initF [Value.func
    (Fn.func f) fa
    fb] (Tryz.f103.ntmps - ([Value.func (Fn.func f) fa
    fb] : List Value).length)) w = VC_acollect f fa fb w R := by kernel_rfl
  have hb : Tryz.f103.body = some (Tryz.f103.body.getD .skip) := by kernel_rfl
  exact calls_of_exec2' (P := Tryz.prog) (fn := Tryz.f103) (c := Tryz.f103.body.getD .skip) (args := [Value.func
    (Fn.func f) fa fb]) (w := w) (R := R) pur1_ok Tryz.func103 hb e h

def VC_asorted (f : FuncId) (g : FuncId) (fa : Array Value) (fb : Array Value) (ga : Array Value) (gb : Array Value) (w : World) (R : Ending → World → Prop) : Prop :=
 CallsS Tryz.prog 103 #[Value.func (Fn.func f) fa fb] w fun (e : Ending) (w' : World) =>
 ∃ (p : Option Addr),
 ∃ (n : Nat),
 ∃ (c : Nat),
 e = Ending.returned (Value.slice p n c) ∧
 KeptL [] w w' ∧
 CallsS Tryz.prog 104 #[Value.slice p n c, Value.func (Fn.func g) ga gb] w' fun (e : Ending) (w'_1 : World) =>
 e = Ending.returned (Value.tuple #[]) ∧ KeptL [] w' w'_1 ∧ R (Ending.returned (Value.slice p n c)) w'_1
theorem vc_asorted (f : FuncId) (g : FuncId) (fa : Array Value) (fb : Array Value) (ga : Array Value) (gb : Array Value) (w : World) (R : Ending → World → Prop) (h : VC_asorted f g fa fb ga gb w R) : Calls Tryz.prog 71 ([Value.func
    (Fn.func f) fa fb,
  Value.func (Fn.func g) ga gb] : List Value).toArray w R := by
  have e : execR2 { P := Tryz.prog, loops := [], pur := pur1, tails := [], joins := [], boxes := [] } Tryz.f71.results.toList R (Tryz.f71.body.getD .skip) (initF [Value.func
    (Fn.func f) fa fb,
  Value.func (Fn.func g) ga
    gb] (Tryz.f71.ntmps - ([Value.func (Fn.func f) fa fb,
  Value.func (Fn.func g) ga gb] : List Value).length)) w = VC_asorted f g fa fb ga gb w R := by kernel_rfl
  have hb : Tryz.f71.body = some (Tryz.f71.body.getD .skip) := by kernel_rfl
  exact calls_of_exec2' (P := Tryz.prog) (fn := Tryz.f71) (c := Tryz.f71.body.getD .skip) (args := [Value.func
    (Fn.func f) fa fb,
  Value.func (Fn.func g) ga gb]) (w := w) (R := R) pur1_ok Tryz.func71 hb e h

end Go.Proofs.YtfacflbmlfbeeaaGreatDoor

/- The formulas of functions by the symbolic evaluator, and that each gives the call's contract. Written by a program (gen.py). No condition. -/
namespace Go.Proofs.YtfacflbmlfbeeaaGreatDoor
set_option maxRecDepth 100000
set_option linter.unusedVariables false

def VC_gncmp1 (s : ByteArray) (t : ByteArray) (w : World) (R : Ending → World → Prop) : Prop :=
 CallsS Tryz.prog 87 #[Value.string s] w fun (e : Ending) (w' : World) =>
 ∃ (p : Option Addr),
 ∃ (n : Nat),
 ∃ (c : Nat),
 e = Ending.returned (Value.slice p n c) ∧
 CallsS Tryz.prog 87 #[Value.string t] w' fun (e : Ending) (w' : World) =>
 ∃ (p_1 : Option Addr),
 ∃ (n_1 : Nat),
 ∃ (c_1 : Nat),
 e = Ending.returned (Value.slice p_1 n_1 c_1) ∧
 CallsS Tryz.prog 128 #[Value.slice p n c, Value.slice p_1 n_1 c_1] w' fun (e : Ending) (w' : World) =>
 ∃ (x : Int), e = Ending.returned (Value.int IntKind.i64 x) ∧ R (Ending.returned (Value.int IntKind.i64 x)) w'
theorem vc_gncmp1 (s : ByteArray) (t : ByteArray) (w : World) (R : Ending → World → Prop) (h : VC_gncmp1 s t w R) : Calls Tryz.prog 102 ([Value.string
    s,
  Value.string t] : List Value).toArray w R := by
  have e : execR { P := Tryz.prog, loops := [], pur := pur1, tails := [], joins := [], boxes := [] } Tryz.f102.results.toList R (Tryz.f102.body.getD .skip) (initF [Value.string
    s,
  Value.string
    t] (Tryz.f102.ntmps - ([Value.string s,
  Value.string t] : List Value).length)) w = VC_gncmp1 s t w R := by kernel_rfl
  have hb : Tryz.f102.body = some (Tryz.f102.body.getD .skip) := by kernel_rfl
  exact calls_of_exec' (P := Tryz.prog) (fn := Tryz.f102) (c := Tryz.f102.body.getD .skip) (args := [Value.string s,
  Value.string t]) (w := w) (R := R) pur1_ok Tryz.func102 hb e h

def VC_slcmp1 (p : Option Addr) (n : Nat) (c : Nat) (q : Option Addr) (k : Nat) (d : Nat) (w : World) (R : Ending → World → Prop) : Prop :=
 ∃ (I : List Value → World → Prop),
 ∃ (m : List Value → World → Nat),
 I [Value.int IntKind.i64 0] w ∧
 ∀ (x : Int) (w' : World),
 I [Value.int IntKind.i64 x] w' →
 bsp (decide (x < (↑n : Int)))
 (nn true p fun (b o : Nat) =>
 (0 ≤ x ∧ x < (↑n : Int)) ∧
 ∃ (x_1 : ByteArray),
 w'.cell? (Addr.mk b (o + x.toNat) none) = some (Value.string x_1) ∧
 bsp (decide (x ≥ (↑k : Int))) (R (Ending.returned (Value.int IntKind.i64 1)) w')
 (nn true q fun (b o : Nat) =>
 (0 ≤ x ∧ x < (↑k : Int)) ∧
 ∃ (x_2 : ByteArray),
 w'.cell? (Addr.mk b (o + x.toNat) none) = some (Value.string x_2) ∧
 CallsS Tryz.prog 145 #[Value.string x_1, Value.string x_2] w' fun (e : Ending) (w'_1 : World) =>
 ∃ (x_3 : Int),
 e = Ending.returned (Value.int IntKind.i64 x_3) ∧
 bsp (x_3 != 0) (R (Ending.returned (Value.int IntKind.i64 x_3)) w'_1)
 (I [Value.int IntKind.i64 (IntKind.i64.wrap (x + 1))] w'_1 ∧
 m [Value.int IntKind.i64 (IntKind.i64.wrap (x + 1))] w'_1 < m [Value.int IntKind.i64 x] w')))
 (bsp (decide ((↑n : Int) < (↑k : Int))) (R (Ending.returned (Value.int IntKind.i64 (-1))) w')
 (R (Ending.returned (Value.int IntKind.i64 0)) w'))
theorem vc_slcmp1 (p : Option Addr) (n : Nat) (c : Nat) (q : Option Addr) (k : Nat) (d : Nat) (w : World) (R : Ending → World → Prop) (h : VC_slcmp1 p n c q k d w R) : Calls Tryz.prog 128 ([Value.slice
    p n c,
  Value.slice q k d] : List Value).toArray w R := by
  have e : execR { P := Tryz.prog, loops := [(2, [(11, Ck.int IntKind.i64)])], pur := pur1, tails := [], joins := [], boxes := [] } Tryz.f128.results.toList R (Tryz.f128.body.getD .skip) (initF [Value.slice
    p n c,
  Value.slice q k
    d] (Tryz.f128.ntmps - ([Value.slice p n c,
  Value.slice q k d] : List Value).length)) w = VC_slcmp1 p n c q k d w R := by kernel_rfl
  have hb : Tryz.f128.body = some (Tryz.f128.body.getD .skip) := by kernel_rfl
  exact calls_of_exec' (P := Tryz.prog) (fn := Tryz.f128) (c := Tryz.f128.body.getD .skip) (args := [Value.slice p n c,
  Value.slice q k d]) (w := w) (R := R) pur1_ok Tryz.func128 hb e h

def VC_gparts1 (s : ByteArray) (w : World) (R : Ending → World → Prop) : Prop :=
 CallsS Tryz.prog 108 #[Value.string s, Value.string (ByteArray.mk #[46])] w fun (e : Ending) (w' : World) =>
 ∃ (p : Option Addr),
 ∃ (n : Nat), ∃ (c : Nat), e = Ending.returned (Value.slice p n c) ∧ R (Ending.returned (Value.slice p n c)) w'
theorem vc_gparts1 (s : ByteArray) (w : World) (R : Ending → World → Prop) (h : VC_gparts1 s w R) : Calls Tryz.prog 87 ([Value.string
    s] : List Value).toArray w R := by
  have e : execR { P := Tryz.prog, loops := [], pur := pur1, tails := [], joins := [], boxes := [] } Tryz.f87.results.toList R (Tryz.f87.body.getD .skip) (initF [Value.string
    s] (Tryz.f87.ntmps - ([Value.string s] : List Value).length)) w = VC_gparts1 s w R := by kernel_rfl
  have hb : Tryz.f87.body = some (Tryz.f87.body.getD .skip) := by kernel_rfl
  exact calls_of_exec' (P := Tryz.prog) (fn := Tryz.f87) (c := Tryz.f87.body.getD .skip) (args := [Value.string
    s]) (w := w) (R := R) pur1_ok Tryz.func87 hb e h

end Go.Proofs.YtfacflbmlfbeeaaGreatDoor

/- Chapter 39: the contracts of the comparisons of authors and of submissions, of their sorts, of slices.SortedFunc, Compact, MinFunc. Rows that are not too long. -/
namespace Go.Proofs.YtfacflbmlfbeeaaGreatDoor
open Go.RowKit Go.Sort

/-! ### Authors -/
def auB (f : Nat → Int) : List UInt8 := (auI f).map fun x => x.toNat.toUInt8
theorem bytesOf_auB (f : Nat → Int) : Lib.bytesOf (auI f) = auB f := rfl
set_option maxRecDepth 100000 in
theorem bcompare16_run {w : World} {b b' o o' : Nat} {f g : Nat → Int} (h : ∀ j, j < 16 → w.cell? ⟨b, o + j, none⟩ = some (.int .u8 (f j))) (h' : ∀ j, j < 16 → w.cell? ⟨b', o' + j, none⟩ = some (.int .u8 (g j))) (c c' : Nat) :
    (Extern.BytealgCompare.compare #[.slice (some ⟨b, o, none⟩) 16 c, .slice (some ⟨b', o', none⟩) 16 c']).run Tryz.prog w = .ok (.int .i64 (Lib.compareBytes (auB f) (auB g))) w := by
  have key : ∀ (b o : Nat) (f : Nat → Int), (∀ j, j < 16 → w.cell? ⟨b, o + j, none⟩ = some (.int .u8 (f j))) → (Extern.Bytes.loadBytes ⟨b, o, none⟩ 16 .empty).run Tryz.prog w = .ok ⟨(auB f).toArray⟩ w := fun b o f h => by
    have := Lib.run_loadBytesX (P := Tryz.prog) w (auI f) ⟨b, o, none⟩ .empty (fun j x hj => by
      have hlt : j < 16 := by have := (List.getElem?_eq_some_iff.1 hj).1; simpa [auI] using this
      rw [auI_get f hlt] at hj
      simp at hj
      subst hj
      have e : (⟨b, o, none⟩ : Addr).add j = ⟨b, o + j, none⟩ := by
        unfold Addr.add
        simp
      rw [e]
      exact h j hlt)
    have hl : (auI f).length = 16 := by simp [auI]
    rw [hl, bytesOf_auB] at this
    rw [this]
    generalize auB f = l
    have e : ByteArray.empty.data ++ l.toArray = l.toArray := by
      show (#[] : Array UInt8) ++ l.toArray = l.toArray
      simp
    rw [e]
  change Sem.run Tryz.prog (do pure (goInt (Extern.BytealgCompare.cmp (← Extern.Bytes.bytesOf (.slice (some ⟨b, o, none⟩) 16 c)) (← Extern.Bytes.bytesOf (.slice (some ⟨b', o', none⟩) 16 c'))))) w = _
  simp only [Extern.Bytes.bytesOf, Sem.run_bind, key b o f h, key b' o' g h', Sem.run_pure, Result.andThen]
  rw [Lib.cmp_eq]
  rfl
set_option maxHeartbeats 1000000 in
set_option maxRecDepth 100000 in
theorem bcompare16_any {w : World} {b b' o o' : Nat} {f g : Nat → Int} (h : ∀ j, j < 16 → w.cell? ⟨b, o + j, none⟩ = some (.int .u8 (f j))) (h' : ∀ j, j < 16 → w.cell? ⟨b', o' + j, none⟩ = some (.int .u8 (g j))) (c c' : Nat) :
    Calls Tryz.prog 106 #[.slice (some ⟨b, o, none⟩) 16 c, .slice (some ⟨b', o', none⟩) 16 c'] w fun e w' => e = .returned (.int .i64 (Lib.compareBytes (auB f) (auB g))) ∧ w' = w := by
  have hr := bcompare16_run h h' c c'
  generalize Lib.compareBytes (auB f) (auB g) = r at hr ⊢
  clear h h'
  go_enter Tryz.func106, Tryz.ntmps106
  go_wp2
  rw [run_callFunc_extern Tryz.func131 (by kernel_rfl) (by kernel_rfl) (by kernel_rfl) (e := Extern.BytealgCompare.compare) (by kernel_rfl), hr]
  simp only [Result.andThen]
  rw [Oper.upon_value]
  go_wp2
  go_ret
  exact ⟨rfl, rfl⟩


def cfA (x y : Nat → Int) : Int := Lib.compareBytes (auB x) (auB y)
theorem cfA_ord : Ord3 cfA := cb_ord auB
theorem acmp_any (f g : Nat → Int) (w : World) : Calls Tryz.prog 73 #[.agg (auC f).toArray, .agg (auC g).toArray] w fun e w' => e = .returned (.int .i64 (cfA f g)) ∧ K0 w w' ∧ w.drawn ≤ w'.drawn := by
  refine vc_acmp _ _ w _ ?_
  intro n w1 hn n1 w2 hn1
  have b1 := (hn1.kp (fun _ => False)).blk hn.block (fun h => h)
  have b2 := hn1.block
  have hd : w2.drawn = w.drawn := by rw [hn1.hw, hn.hw]; rfl
  refine ⟨(bcompare16_any (w := w2.drew) (f := f) (g := g) (fun j hj => cell_at (blk_drew b1) ?_) (fun j hj => cell_at (blk_drew b2) ?_) 16 16).mono fun e w' ⟨he, hw⟩ => ⟨_, he, rfl, ?_, ?_⟩⟩
  · rw [Nat.zero_add]; simpa [auC] using arrI_get .u8 f 16 0 j hj
  · rw [Nat.zero_add]; simpa [auC] using arrI_get .u8 g 16 0 j hj
  · rw [hw]; exact ((hn.kp _).trans (hn1.kp _)).drew
  · rw [hw]; show w.drawn ≤ w2.drawn + 1; omega
theorem auC_one (x : Nat → Int) : ∀ v ∈ auC x, v.oneCell' = true := arr_one x 16
theorem auC_flat (l : List (Nat → Int)) : (l.flatMap auC).length = l.length * 16 := len_flat auC 16 l (fun _ _ => rfl)
set_option maxHeartbeats 1000000 in
theorem asort_any (cs : List (Nat → Int)) (p : Option Addr) (c : Nat) (w : World) {base : Nat} (ho : w.ownsRow base 45 16 (.slice p cs.length c) cs.length (cs.flatMap auC)) (hl : cs.length ≤ 1000000) :
    Calls Tryz.prog 104 #[.slice p cs.length c, .func (.func 73) #[] #[]] w fun e w' => e = .returned (.tuple #[]) ∧
      ∃ cs' : List (Nat → Int), cs'.Perm cs ∧ (cs'.Pairwise fun x y => ¬ cfA y x < 0) ∧
        w'.ownsRow base 45 16 (.slice p cs'.length c) cs'.length (cs'.flatMap auC) ∧ Kp (fun i => (Value.slice p cs.length c).ownBlock = some i) w w' := by
  rcases Nat.eq_zero_or_pos cs.length with h0 | h0
  · have : cs = [] := List.eq_nil_of_length_eq_zero h0
    subst this
    exact (Tryz.slices_SortFunc_none104 p c _ w).mono fun e w' ⟨he, hw⟩ => ⟨he, [], .refl _, .nil, by rw [hw]; exact ho, by rw [hw]; exact .refl _ _⟩
  rcases ho.2 with ⟨_, hz⟩ | ⟨g, cap, cur, he, hbase, hg, hcap, hmax, hcs, _⟩
  · omega
  simp only [Value.slice.injEq, true_and] at he
  obtain ⟨rfl, rfl⟩ := he
  have hcell : ∀ k x, cs[k]? = some x → ∀ j v, (auC x)[j]? = some v → w.cell? ⟨g, k * 16 + j, none⟩ = some v := fun k x hk j v hv => by
    have hj : j < 16 := by rw [← auC_length x]; exact (List.getElem?_eq_some_iff.1 hv).1
    obtain ⟨g', e', hc⟩ := own_cellL ho (i := k * 16 + j) (v := v) (by rw [flat_get auC 16 cs k x j (fun y _ => auC_length y) hk hj]; exact hv)
    simp only [Option.some.injEq, Addr.mk.injEq, and_true] at e'
    subst e'
    exact hc
  have key : ∀ (d : Array (Nat → Int)) (t : Nat), t < d.size * 16 → ∃ x v, d[t / 16]? = some x ∧ (auC x)[t % 16]? = some v ∧ (flatK auC 16 d)[t]! = v := fun d t ht => by
    have h1 : t / 16 < d.size := by omega
    have h2 : t % 16 < (auC d[t / 16]!).length := by rw [auC_length]; omega
    refine ⟨d[t / 16]!, (auC d[t / 16]!)[t % 16], ?_, List.getElem?_eq_getElem h2, ?_⟩
    · rw [Array.getElem?_eq_getElem h1, getElem!_pos d _ h1]
    · rw [get_flatK auC 16 d t ht, getElem!_pos (auC d[t / 16]!) (t % 16) h2]
  have hH : HoldsK auC 16 w g 0 cs.toArray := by
    intro t ht
    rw [size_flatK] at ht
    obtain ⟨x, v, h1, h2, h3⟩ := key cs.toArray t ht
    refine ⟨?_, frozen_block hg _⟩
    rw [h3, Nat.zero_add]
    have := hcell (t / 16) x (by simpa using h1) (t % 16) v h2
    rw [show t / 16 * 16 + t % 16 = t by omega] at this
    exact this
  have eg : ∀ args w, (callFunc 73 args).run Tryz.prog w = .ok (.enter 73 args) w := enters_of Tryz.func73 (by kernel_rfl) rfl
  have hcmp : CmpLays Tryz.prog 73 #[] auC 16 cfA g 0 cs.toArray.size w := fun m os dk _ x y => (acmp_any x y _).mono fun e w' ⟨he, hk, hd⟩ => ⟨he, grow_of hk hd⟩
  have hS := AnyQ.slices_SortFunc (α := (Nat → Int)) Tryz.laysSlF06_f104 16 Tryz.isAgg45 Tryz.sizeOf45 auC auC_length auC_one cfA cfA_ord.swo 73 #[] g 0 c cs.toArray w eg hcmp hH (block_lt hg) (by simp; omega)
  change Calls Tryz.prog 104 #[.slice (some ⟨g, 0, none⟩) cs.length c, .func (.func 73) #[] #[]] w _ at hS
  refine hS.mono fun e w' ⟨he, d', m, os, hperm, hsort, hw⟩ => ?_
  have hs1 : d'.size = cs.length := by simpa using hperm.1
  have hp : d'.toList.Perm cs := by
    have h1 := hperm.1
    have h2 := hperm.2.2
    rw [show d'.extract 0 cs.toArray.size = d' from by rw [← h1]; exact Array.extract_size] at h2
    rw [show cs.toArray.extract 0 cs.toArray.size = cs.toArray from Array.extract_size] at h2
    exact h2
  have hlen : d'.toList.length = cs.length := hp.length_eq
  refine ⟨he, d'.toList, hp, ?_, ?_, ?_⟩
  · rw [List.pairwise_iff_getElem]
    intro i j hi hj hij
    have := hsort i j (Nat.zero_le _) hij (by simp only [List.size_toArray]; omega)
    have e1 : d'[i]! = d'.toList[i] := by
      rw [getElem!_pos d' i (by simpa using hi)]
      simp
    have e2 : d'[j]! = d'.toList[j] := by
      rw [getElem!_pos d' j (by simpa using hj)]
      simp
    rw [e1, e2] at this
    intro hc
    have h3 : decide (cfA d'.toList[j] d'.toList[i] < 0) = true := decide_eq_true hc
    rw [show ltOf cfA d'.toList[j] d'.toList[i] = decide (cfA d'.toList[j] d'.toList[i] < 0) from rfl, h3] at this
    cases this
  · obtain ⟨cur', hc1, hc2⟩ := sortW_blk auC 16 w g 0 m d' os hg
    refine ⟨auC_flat _, .inr ⟨g, c, cur', by rw [hlen], hbase, by rw [hw]; exact hc2, by omega, hmax, by rw [hc1, hcs], ?_⟩⟩
    have hHo := holdsK_sortWorldK_c auC 16 w g 0 cs.toArray d' m os hH (block_lt hg) hperm.1
    apply List.ext_getElem?
    intro t
    rw [List.getElem?_take]
    rcases Nat.lt_or_ge t (d'.toList.length * 16) with ht | ht
    · rw [if_pos ht]
      have ht' : t < d'.size * 16 := by simpa using ht
      have h1 := (hHo t (by rw [size_flatK]; exact ht')).1
      obtain ⟨x', v', h3, h4, h5⟩ := key d' t ht'
      rw [h5, Nat.zero_add, cell_block hc2] at h1
      rw [Array.getElem?_toList, h1]
      have := flat_get auC 16 d'.toList (t / 16) x' (t % 16) (fun y _ => auC_length y) (by simpa using h3) (by omega)
      rw [show t / 16 * 16 + t % 16 = t by omega] at this
      rw [this, h4]
      rfl
    · rw [if_neg (by omega), List.getElem?_eq_none (by rw [auC_flat]; exact ht)]
  · rw [hw]
    exact (sortW_kp auC 16 w g 0 m d' os).mono fun i _ e => by rw [e]; rfl

/-! ### Submissions -/
theorem cmpOr3_any (a b d : Int) (n c : Nat) (t : TypeId) (w : World) (hb : w.heap[n]? = some (.cells #[.int .i64 a, .int .i64 b, .int .i64 d] t (0, 0))) : Calls Tryz.prog 99 #[.slice (some ⟨n, 0, none⟩) 3 c] w fun e w' => e = .returned (.int .i64 (if a ≠ 0 then a else if b ≠ 0 then b else d)) ∧ w' = w := by
  refine vc_cmpOr (some ⟨n, 0, none⟩) 3 c w _ ?_
  refine count1 3 (by decide) (fun k w' => (0 < k → a = 0) ∧ (1 < k → b = 0) ∧ (2 < k → d = 0) ∧ w' = w) ⟨fun h => by omega, fun h => by omega, fun h => by omega, rfl⟩ ?_
  rintro I m k w' hk ⟨h0, h1, h2, rfl⟩ next
  refine bsp_intro (fun hlt => ?_) (fun hge => ?_)
  · have hlt : k < 3 := by simp at hlt; omega
    show (0 ≤ (k : Int) ∧ (k : Int) < ((3 : Nat) : Int)) ∧ _
    rw [Int.toNat_natCast]
    obtain rfl | rfl | rfl : k = 0 ∨ k = 1 ∨ k = 2 := by omega
    · refine ⟨by omega, a, cell_at hb rfl, bsp_intro (fun h => ⟨?_, rfl⟩) (fun h => next hlt _ ⟨fun _ => ?_, fun h => by omega, fun h => by omega, rfl⟩)⟩
      · have h : a ≠ 0 := by simpa using h
        rw [if_pos h]
      · simpa using h
    · have ha := h0 (by omega)
      refine ⟨by omega, b, cell_at hb rfl, bsp_intro (fun h => ⟨?_, rfl⟩) (fun h => next hlt _ ⟨fun _ => ha, fun _ => by simpa using h, fun h => by omega, rfl⟩)⟩
      rw [if_neg (by omega), if_pos (by simpa using h)]
    · have ha := h0 (by omega)
      have hb' := h1 (by omega)
      refine ⟨by omega, d, cell_at hb rfl, bsp_intro (fun h => ⟨?_, rfl⟩) (fun h => next hlt _ ⟨fun _ => ha, fun _ => hb', fun _ => by simpa using h, rfl⟩)⟩
      rw [if_neg (by omega), if_neg (by omega)]
  · have : k = 3 := by simp at hge; omega
    subst this
    rw [if_neg (by have := h0 (by omega); omega), if_neg (by have := h1 (by omega); omega), h2 (by omega)]
    exact ⟨rfl, rfl⟩
theorem cfT_eq (x y : Sb) : cfT x y = Lib.compareInt x.r y.r := by unfold cfT Lib.compareInt; rfl
theorem gparts1_any (s : ByteArray) (w : World) (hs : s.size ≤ 1073741824) (hG : GW w) : Calls Tryz.prog 87 #[.string s] w fun e w' => (∃ (p : Option Addr) (c : Nat), e = .returned (.slice p (partsD s).length c) ∧ StrP w' p (partsD s)) ∧ K0 w w' ∧ w.drawn ≤ w'.drawn := by
  refine vc_gparts1 s w _ ?_
  obtain ⟨mm, hG1⟩ := hG
  refine ⟨(Tryz.strings_Split s ⟨#[46]⟩ mm w (by omega) hG1 (by decide)).mono fun e w2 ⟨he, hw2⟩ => ?_⟩
  have hlen : (partsD s).length = Lib.countB s ⟨#[46]⟩ + 1 := Lib.splitB_all ⟨#[46]⟩ (by decide) 0 _ s rfl
  have hn2 : NewB w (.cells ((partsD s).map .string).toArray 9) w.heap.size w2 := ⟨rfl, hw2⟩
  rw [← hlen] at he
  have k2 : K0 w w2 := hn2.kp _
  refine ⟨_, _, _, he, ⟨_, _, rfl, fun k z hk => ⟨_, 0, rfl, ?_⟩⟩, k2, by rw [hw2]; exact Nat.le_refl _⟩
  rw [Nat.zero_add]
  exact cell_at hn2.block (by simp [hk])
theorem lsC_step {a b : List ByteArray} {k : Nat} {x y : ByteArray} (hx : a[k]? = some x) (hy : b[k]? = some y) : lsC (a.drop k) (b.drop k) = if Lib.compareBytes x.data.toList y.data.toList ≠ 0 then Lib.compareBytes x.data.toList y.data.toList else lsC (a.drop (k + 1)) (b.drop (k + 1)) := by
  have h1 := (List.getElem?_eq_some_iff.1 hx).1
  have h2 := (List.getElem?_eq_some_iff.1 hy).1
  have e1 : a.drop k = x :: a.drop (k + 1) := by
    rw [List.drop_eq_getElem_cons h1]
    rw [List.getElem?_eq_getElem h1] at hx
    cases hx; rfl
  have e2 : b.drop k = y :: b.drop (k + 1) := by
    rw [List.drop_eq_getElem_cons h2]
    rw [List.getElem?_eq_getElem h2] at hy
    cases hy; rfl
  rw [e1, e2]; rfl
theorem slcmp1_any (a b : List ByteArray) (p q : Option Addr) (c d : Nat) (w : World) (ha : StrP w p a) (hb : StrP w q b) (hla : a.length ≤ 4611686018427387904) (hlb : b.length ≤ 4611686018427387904) :
    Calls Tryz.prog 128 #[.slice p a.length c, .slice q b.length d] w fun e w' => e = .returned (.int .i64 (lsC a b)) ∧ w' = w := by
  refine vc_slcmp1 p a.length c q b.length d w _ ?_
  refine count1 a.length (by omega) (fun k w' => w' = w ∧ k ≤ b.length ∧ lsC a b = lsC (a.drop k) (b.drop k)) ⟨rfl, by omega, rfl⟩ ?_
  rintro I m k w' hk ⟨rfl, hkb, hI⟩ next
  refine bsp_intro (fun hlt => ?_) (fun hge => ?_)
  · have hlt : k < a.length := by simp at hlt; omega
    obtain ⟨x, b1, o1, hx, hp, hc1⟩ := ha.get hlt
    rw [Int.toNat_natCast]
    refine nn_is hp ⟨⟨by omega, by omega⟩, x, hc1, bsp_intro (fun h => ?_) (fun h => ?_)⟩
    · have h : b.length ≤ k := by simp at h; omega
      have e1 : b.drop k = [] := List.drop_eq_nil_of_le h
      have e2 : a.drop k = x :: a.drop (k + 1) := by
        rw [List.drop_eq_getElem_cons hlt]
        rw [List.getElem?_eq_getElem hlt] at hx
        cases hx; rfl
      rw [hI, e1, e2]
      exact ⟨rfl, rfl⟩
    · have h : k < b.length := by simp at h; omega
      obtain ⟨y, b2, o2, hy, hq, hc2⟩ := hb.get h
      refine nn_is hq ⟨⟨by omega, by omega⟩, y, hc2, ⟨(cmpS_any x y w').mono fun e w2 ⟨he, hw⟩ => ⟨_, he, ?_⟩⟩⟩
      subst hw
      rw [lsC_step hx hy] at hI
      refine bsp_intro (fun h3 => ?_) (fun h3 => ?_)
      · have h3 : Lib.compareBytes x.data.toList y.data.toList ≠ 0 := by simpa using h3
        rw [if_pos h3] at hI
        rw [hI]
        exact ⟨rfl, rfl⟩
      · have h3 : Lib.compareBytes x.data.toList y.data.toList = 0 := by simpa using h3
        rw [if_neg (by omega)] at hI
        exact next hlt _ ⟨rfl, h, hI⟩
  · have : k = a.length := by simp at hge; omega
    subst this
    rw [List.drop_length] at hI
    refine bsp_intro (fun h => ?_) (fun h => ?_)
    · have h : a.length < b.length := by simpa using h
      rw [List.drop_eq_getElem_cons h] at hI
      rw [hI]
      exact ⟨rfl, rfl⟩
    · have h : a.length = b.length := by simp at h; omega
      rw [h, List.drop_length] at hI
      rw [hI]
      exact ⟨rfl, rfl⟩
theorem gncmp1_any (s t : ByteArray) (w : World) (hs : s.size ≤ 1073741824) (ht : t.size ≤ 1073741824) (hG : GW w) : Calls Tryz.prog 102 #[.string s, .string t] w fun e w' => e = .returned (.int .i64 (gnC s t)) ∧ K0 w w' ∧ w.drawn ≤ w'.drawn := by
  refine vc_gncmp1 s t w _ ⟨(gparts1_any s w hs hG).mono fun e w1 ⟨⟨p, c, he, hP⟩, k1, d1⟩ => ⟨_, _, _, he, ⟨(gparts1_any t w1 ht (hG.kp k1 (fun h => h))).mono fun e w2 ⟨⟨q, d, he, hQ⟩, k2, d2⟩ => ⟨_, _, _, he, ?_⟩⟩⟩⟩
  have l1 := partsD_le s.size s (Nat.le_refl _)
  have l2 := partsD_le t.size t (Nat.le_refl _)
  exact ⟨(slcmp1_any (partsD s) (partsD t) p q c d w2 (hP.k0 k2) hQ (by omega) (by omega)).mono fun e w3 ⟨he, hw⟩ => ⟨_, he, rfl, by rw [hw]; exact k1.trans k2, by rw [hw]; omega⟩⟩
theorem mdcmp_any (x y : Sb) (w : World) (hx : x.g.size ≤ 1073741824) (hy : y.g.size ≤ 1073741824) (hG : GW w) : Calls Tryz.prog 68 #[.agg (sbC x).toArray, .agg (sbC y).toArray] w fun e w' => e = .returned (.int .i64 (cfM x y)) ∧ K0 w w' ∧ w.drawn ≤ w'.drawn := by
  refine vc_mdcmp _ _ w _ ?_
  intro n w1 hn n1 w2 hn1
  have b1 := (hn1.kp (fun _ => False)).blk hn.block (fun h => h)
  have b2 := hn1.block
  have hd : w2.drawn = w.drawn := by rw [hn1.hw, hn.hw]; rfl
  have k2 : K0 w w2 := (hn.kp _).trans (hn1.kp _)
  refine ⟨fun wx => K0 w2 wx, (Kp.refl _ _).drew, x.r, fun wx h => cell_at (h.blk b1 (fun h => h)) rfl, y.r, fun wx h => cell_at (h.blk b2 (fun h => h)) rfl, x.id, fun wx h => AtL_block (h.blk b1 (fun h => h)) rfl, y.id, fun wx h => AtL_block (h.blk b2 (fun h => h)) rfl, x.g, fun wx h => cell_at (h.blk b1 (fun h => h)) rfl, y.g, fun wx h => cell_at (h.blk b2 (fun h => h)) rfl, ?_⟩
  refine ⟨(Tryz.cmp_Compare_int x.r y.r w2.drew).mono fun e w3 ⟨he, hw⟩ => ⟨_, he, by rw [hw]; exact (Kp.refl _ _).drew, ?_⟩⟩
  subst hw
  refine ⟨(mcompare_any x.id y.id w2.drew).mono fun e w4 ⟨he, hk4, hd4⟩ => ⟨_, he, (Kp.refl _ _).drew.trans hk4, ?_⟩⟩
  refine ⟨(gncmp1_any x.g y.g w4 hx hy (hG.kp (k2.drew.trans hk4) (fun h => h))).mono fun e w5 ⟨he, hk5, hd5⟩ => ⟨_, he, fun n3 w6 hn6 => ?_⟩⟩
  refine ⟨(cmpOr3_any _ _ _ n3 3 _ w6 hn6.block).mono fun e w7 ⟨he, hw⟩ => ⟨_, he, ?_, ?_, ?_⟩⟩
  · unfold cfM cfI; rw [cfT_eq]
  · rw [hw]; exact ((k2.drew.trans hk4).trans hk5).trans (hn6.kp _)
  · rw [hw, hn6.hw]
    show w.drawn ≤ w5.drawn
    have : w2.drew.drawn = w2.drawn + 1 := rfl
    omega
/-- Submissions whose group's name is not too long. -/
abbrev SbX := {x : Sb // x.g.size ≤ 1073741824}
instance : Inhabited SbX := ⟨⟨sbz, by decide⟩⟩
def sbXC (x : SbX) : List Value := sbC x.1
theorem sbXC_length (x : SbX) : (sbXC x).length = 54 := rfl
def cfX (x y : SbX) : Int := cfM x.1 y.1
theorem cfX_ord : Ord3 cfX := ⟨fun x y => cfM_ord.anti x.1 y.1, fun x y z => cfM_ord.tlt x.1 y.1 z.1, fun x y z => cfM_ord.el x.1 y.1 z.1, fun x y z => cfM_ord.le x.1 y.1 z.1⟩
theorem sbC_one (x : Sb) : ∀ v ∈ sbC x, v.oneCell' = true := fun v hv => by
  unfold sbC at hv
  rcases List.mem_append.1 hv with h | h
  · exact arr_one x.id 32 v h
  rcases List.mem_append.1 h with h | h
  · simp only [List.mem_cons, List.not_mem_nil, or_false] at h
    rcases h with h | h | h | h <;> (subst h; rfl)
  rcases List.mem_append.1 h with h | h
  · exact arr_one x.mo 16 v h
  · simp only [List.mem_cons, List.not_mem_nil, or_false] at h
    rcases h with h | h <;> (subst h; rfl)
theorem sbXC_one (x : SbX) : ∀ v ∈ sbXC x, v.oneCell' = true := sbC_one x.1
theorem mdcmpX_any (x y : SbX) (w : World) (hG : GW w) : Calls Tryz.prog 68 #[.agg (sbXC x).toArray, .agg (sbXC y).toArray] w fun e w' => e = .returned (.int .i64 (cfX x y)) ∧ K0 w w' ∧ w.drawn ≤ w'.drawn := mdcmp_any x.1 y.1 w x.2 y.2 hG
theorem sbXC_flat (l : List SbX) : (l.flatMap sbXC).length = l.length * 54 := len_flat sbXC 54 l (fun _ _ => rfl)
set_option maxHeartbeats 1000000 in
theorem msortX_any (cs : List SbX) (p : Option Addr) (c : Nat) (w : World) {base : Nat} (ho : w.ownsRow base 48 54 (.slice p cs.length c) cs.length (cs.flatMap sbXC)) (hl : cs.length ≤ 1000000) (hG : GW w) :
    Calls Tryz.prog 67 #[.slice p cs.length c, .func (.func 68) #[] #[]] w fun e w' => e = .returned (.tuple #[]) ∧
      ∃ cs' : List SbX, cs'.Perm cs ∧ (cs'.Pairwise fun x y => ¬ cfX y x < 0) ∧
        w'.ownsRow base 48 54 (.slice p cs'.length c) cs'.length (cs'.flatMap sbXC) ∧ Kp (fun i => (Value.slice p cs.length c).ownBlock = some i) w w' := by
  rcases Nat.eq_zero_or_pos cs.length with h0 | h0
  · have : cs = [] := List.eq_nil_of_length_eq_zero h0
    subst this
    exact (Tryz.slices_SortFunc_none67 p c _ w).mono fun e w' ⟨he, hw⟩ => ⟨he, [], .refl _, .nil, by rw [hw]; exact ho, by rw [hw]; exact .refl _ _⟩
  rcases ho.2 with ⟨_, hz⟩ | ⟨g, cap, cur, he, hbase, hg, hcap, hmax, hcs, _⟩
  · omega
  simp only [Value.slice.injEq, true_and] at he
  obtain ⟨rfl, rfl⟩ := he
  have hcell : ∀ k x, cs[k]? = some x → ∀ j v, (sbXC x)[j]? = some v → w.cell? ⟨g, k * 54 + j, none⟩ = some v := fun k x hk j v hv => by
    have hj : j < 54 := by rw [← sbXC_length x]; exact (List.getElem?_eq_some_iff.1 hv).1
    obtain ⟨g', e', hc⟩ := own_cellL ho (i := k * 54 + j) (v := v) (by rw [flat_get sbXC 54 cs k x j (fun y _ => sbXC_length y) hk hj]; exact hv)
    simp only [Option.some.injEq, Addr.mk.injEq, and_true] at e'
    subst e'
    exact hc
  have key : ∀ (d : Array SbX) (t : Nat), t < d.size * 54 → ∃ x v, d[t / 54]? = some x ∧ (sbXC x)[t % 54]? = some v ∧ (flatK sbXC 54 d)[t]! = v := fun d t ht => by
    have h1 : t / 54 < d.size := by omega
    have h2 : t % 54 < (sbXC d[t / 54]!).length := by rw [sbXC_length]; omega
    refine ⟨d[t / 54]!, (sbXC d[t / 54]!)[t % 54], ?_, List.getElem?_eq_getElem h2, ?_⟩
    · rw [Array.getElem?_eq_getElem h1, getElem!_pos d _ h1]
    · rw [get_flatK sbXC 54 d t ht, getElem!_pos (sbXC d[t / 54]!) (t % 54) h2]
  have hH : HoldsK sbXC 54 w g 0 cs.toArray := by
    intro t ht
    rw [size_flatK] at ht
    obtain ⟨x, v, h1, h2, h3⟩ := key cs.toArray t ht
    refine ⟨?_, frozen_block hg _⟩
    rw [h3, Nat.zero_add]
    have := hcell (t / 54) x (by simpa using h1) (t % 54) v h2
    rw [show t / 54 * 54 + t % 54 = t by omega] at this
    exact this
  have eg : ∀ args w, (callFunc 68 args).run Tryz.prog w = .ok (.enter 68 args) w := enters_of Tryz.func68 (by kernel_rfl) rfl
  have hGW : ∀ m os dk, GW (sortWorldK sbXC 54 w g 0 m dk os) := fun m os dk => hG.kp (sortW_kp sbXC 54 w g 0 m dk os) (fun e => by
    obtain ⟨x0, hx0⟩ : ∃ x, cs[0]? = some x := ⟨_, List.getElem?_eq_getElem h0⟩
    have h1 := hcell 0 x0 hx0 0 (.int .u8 (x0.1.id 0)) rfl
    obtain ⟨mm, hm⟩ := hG
    have e : 0 = g := e
    subst e
    rw [show 0 * 54 + 0 = 0 from rfl, hm] at h1
    cases h1)
  have hcmp : CmpLays Tryz.prog 68 #[] sbXC 54 cfX g 0 cs.toArray.size w := fun m os dk _ x y => (mdcmpX_any x y _ (hGW m os dk)).mono fun e w' ⟨he, hk, hd⟩ => ⟨he, grow_of hk hd⟩
  have hS := AnyQ.slices_SortFunc (α := SbX) Tryz.laysSlF06_f67 54 Tryz.isAgg48 Tryz.sizeOf48 sbXC sbXC_length sbXC_one cfX cfX_ord.swo 68 #[] g 0 c cs.toArray w eg hcmp hH (block_lt hg) (by simp; omega)
  change Calls Tryz.prog 67 #[.slice (some ⟨g, 0, none⟩) cs.length c, .func (.func 68) #[] #[]] w _ at hS
  refine hS.mono fun e w' ⟨he, d', m, os, hperm, hsort, hw⟩ => ?_
  have hs1 : d'.size = cs.length := by simpa using hperm.1
  have hp : d'.toList.Perm cs := by
    have h1 := hperm.1
    have h2 := hperm.2.2
    rw [show d'.extract 0 cs.toArray.size = d' from by rw [← h1]; exact Array.extract_size] at h2
    rw [show cs.toArray.extract 0 cs.toArray.size = cs.toArray from Array.extract_size] at h2
    exact h2
  have hlen : d'.toList.length = cs.length := hp.length_eq
  refine ⟨he, d'.toList, hp, ?_, ?_, ?_⟩
  · rw [List.pairwise_iff_getElem]
    intro i j hi hj hij
    have := hsort i j (Nat.zero_le _) hij (by simp only [List.size_toArray]; omega)
    have e1 : d'[i]! = d'.toList[i] := by
      rw [getElem!_pos d' i (by simpa using hi)]
      simp
    have e2 : d'[j]! = d'.toList[j] := by
      rw [getElem!_pos d' j (by simpa using hj)]
      simp
    rw [e1, e2] at this
    intro hc
    have h3 : decide (cfX d'.toList[j] d'.toList[i] < 0) = true := decide_eq_true hc
    rw [show ltOf cfX d'.toList[j] d'.toList[i] = decide (cfX d'.toList[j] d'.toList[i] < 0) from rfl, h3] at this
    cases this
  · obtain ⟨cur', hc1, hc2⟩ := sortW_blk sbXC 54 w g 0 m d' os hg
    refine ⟨sbXC_flat _, .inr ⟨g, c, cur', by rw [hlen], hbase, by rw [hw]; exact hc2, by omega, hmax, by rw [hc1, hcs], ?_⟩⟩
    have hHo := holdsK_sortWorldK_c sbXC 54 w g 0 cs.toArray d' m os hH (block_lt hg) hperm.1
    apply List.ext_getElem?
    intro t
    rw [List.getElem?_take]
    rcases Nat.lt_or_ge t (d'.toList.length * 54) with ht | ht
    · rw [if_pos ht]
      have ht' : t < d'.size * 54 := by simpa using ht
      have h1 := (hHo t (by rw [size_flatK]; exact ht')).1
      obtain ⟨x', v', h3, h4, h5⟩ := key d' t ht'
      rw [h5, Nat.zero_add, cell_block hc2] at h1
      rw [Array.getElem?_toList, h1]
      have := flat_get sbXC 54 d'.toList (t / 54) x' (t % 54) (fun y _ => sbXC_length y) (by simpa using h3) (by omega)
      rw [show t / 54 * 54 + t % 54 = t by omega] at this
      rw [this, h4]
      rfl
    · rw [if_neg (by omega), List.getElem?_eq_none (by rw [sbXC_flat]; exact ht)]
  · rw [hw]
    exact (sortW_kp sbXC 54 w g 0 m d' os).mono fun i _ e => by rw [e]; rfl

end Go.Proofs.YtfacflbmlfbeeaaGreatDoor

/- Chapter 39: the contracts of the sort of submissions, of slices.SortedFunc, Compact, MinFunc. Rows that are not too long. -/
namespace Go.Proofs.YtfacflbmlfbeeaaGreatDoor
open Go.RowKit Go.Sort

theorem attach_map {α : Type} {P : α → Prop} : ∀ (l : List α), (∀ x ∈ l, P x) → ∃ cs : List {x // P x}, cs.map (·.1) = l
  | [], _ => ⟨[], rfl⟩
  | x :: l, h => by
    obtain ⟨cs, hc⟩ := attach_map l fun y hy => h y (by simp [hy])
    exact ⟨⟨x, h x (by simp)⟩ :: cs, by simp [hc]⟩
theorem flat_x (cs : List SbX) : cs.flatMap sbXC = (cs.map (·.1)).flatMap sbC := by
  induction cs with
  | nil => rfl
  | cons x r ih => simp only [List.flatMap_cons, List.map_cons]; rw [ih]; rfl
theorem msort_any (l : List Sb) (p : Option Addr) (c : Nat) (w : World) {base : Nat} (ho : w.ownsRow base 48 54 (.slice p l.length c) l.length (l.flatMap sbC)) (hg : ∀ x ∈ l, x.g.size ≤ 1073741824) (hl : l.length ≤ 1000000) (hG : GW w) :
    Calls Tryz.prog 67 #[.slice p l.length c, .func (.func 68) #[] #[]] w fun e w' => e = .returned (.tuple #[]) ∧
      ∃ l' : List Sb, l'.Perm l ∧ (l'.Pairwise fun x y => ¬ cfM y x < 0) ∧
        w'.ownsRow base 48 54 (.slice p l'.length c) l'.length (l'.flatMap sbC) ∧ Kp (fun i => (Value.slice p l.length c).ownBlock = some i) w w' := by
  obtain ⟨cs, hc⟩ := attach_map l hg
  have hlen : cs.length = l.length := by rw [← hc, List.length_map]
  rw [← hlen] at ho ⊢
  rw [← hc, ← flat_x] at ho
  refine (msortX_any cs p c w ho (by omega) hG).mono fun e w' ⟨he, cs', hp, hs, ho', hk⟩ => ⟨he, cs'.map (·.1), ?_, ?_, ?_, hk⟩
  · rw [← hc]; exact hp.map _
  · rw [List.pairwise_map]; exact hs
  · rw [List.length_map, ← flat_x]; exact ho'

/-! ### slices.SortedFunc -/
theorem asorted_any (zs : List (Nat → Int)) (p : Option Addr) (c Bs : Nat) (w : World) (hB : w.cell? ⟨Bs, 0, none⟩ = some (.slice p zs.length c)) (hBs : Bs < w.heap.size) (hR : RowA auC 16 w p zs) (hp : ∀ g o, p = some ⟨g, o, none⟩ → g < w.heap.size) (hz : zs.length ≤ 1000000) :
    Calls Tryz.prog 71 #[.func (.func 105) #[] #[.pointer (some ⟨Bs, 0, none⟩)], .func (.func 73) #[] #[]] w fun e w' =>
      (∃ (p' : Option Addr) (c' : Nat) (l' : List (Nat → Int)), e = .returned (.slice p' l'.length c') ∧ l'.Perm zs ∧ (l'.Pairwise fun x y => ¬ cfA y x < 0) ∧ w'.ownsRow w.heap.size 45 16 (.slice p' l'.length c') l'.length (l'.flatMap auC)) ∧ K0 w w' := by
  refine vc_asorted _ _ _ _ _ _ w _ ?_
  have hcol : Calls Tryz.prog 103 #[.func (.func 105) #[] #[.pointer (some ⟨Bs, 0, none⟩)]] w fun e w' => (∃ (p' : Option Addr) (c' : Nat), e = .returned (.slice p' zs.length c') ∧ w'.ownsRow w.heap.size 45 16 (.slice p' zs.length c') zs.length (zs.flatMap auC)) ∧ K0 w w' := by
    refine vc_acollect _ _ _ w _ ⟨(callsIn_wide.1 (aapp_in 4 (by omega) Bs p c zs hz w hBs hB hR hp)).mono fun e w' ⟨v, he, ho, hb⟩ => ?_⟩
    have hk : K0 w w' := ⟨hb.os, hb.tape, hb.output, hb.size, fun i hi _ => hb.block i hi⟩
    rcases ho.2 with ⟨rfl, h0⟩ | ⟨g, cap, cur, rfl, _⟩
    · exact ⟨none, 0, 0, he, .of_k0 hk, ⟨none, 0, by rw [h0], by rw [h0] at ho ⊢; exact ho⟩, hk⟩
    · exact ⟨_, _, _, he, .of_k0 hk, ⟨_, _, rfl, ho⟩, hk⟩
  refine ⟨hcol.mono fun e w1 ⟨⟨p', c', he, ho⟩, k1⟩ => ⟨_, _, _, he, .of_k0 k1, ?_⟩⟩
  refine ⟨(asort_any zs p' c' w1 ho hz).mono fun e w2 ⟨he2, l', hp', hs, ho', k2⟩ => ?_⟩
  have k02 : K0 w w2 := k1.fresh k2 (fun i hi e => by have := own_ge ho e; omega)
  have hk2 : KeptL [] w1 w2 := .of_kp k2 (fun n hn => by cases hn)
  exact ⟨he2, hk2, ⟨p', c', l', by rw [hp'.length_eq], hp', hs, ho'⟩, k02⟩

/-! ### Compact -/
def adjI (l : List (Nat → Int)) : Prop := ∃ (k : Nat) (x y : Nat → Int), l[k]? = some x ∧ l[k + 1]? = some y ∧ auI x = auI y
theorem zeroAu (w : World) : (zeroValue 45).run Tryz.prog w = .ok (auV fun _ => 0) w := by kernel_rfl
set_option maxHeartbeats 1000000 in
theorem acompact_any (l : List (Nat → Int)) (p : Option Addr) (c : Nat) (w : World) {base : Nat} (ho : w.ownsRow base 45 16 (.slice p l.length c) l.length (l.flatMap auC)) (hb : ∀ m ∈ l, BY m) (hl : l.length ≤ 1000000) :
    Calls Tryz.prog 74 #[.slice p l.length c] w fun e w' => (∃ m : Nat, e = .returned (.slice p m c) ∧ (m = l.length ∧ ¬ adjI l ∨ m < l.length ∧ adjI l)) ∧ Kp (fun i => (Value.slice p l.length c).ownBlock = some i) w w' := by
  refine vc_acompact p l.length c w _ (bsp_intro (fun h => ?_) (fun h => ?_))
  · have h : l.length < 2 := by simp at h; omega
    refine ⟨⟨_, rfl, .inl ⟨rfl, fun ⟨k, x, y, h1, h2, _⟩ => ?_⟩⟩, .refl _ _⟩
    have := (List.getElem?_eq_some_iff.1 h2).1
    omega
  have h2 : 2 ≤ l.length := by simp at h; omega
  obtain ⟨g, cap, cur, hv, hbase, hg, hcap, hmax, hcs, _⟩ : ∃ g cap cur, Value.slice p l.length c = .slice (some ⟨g, 0, none⟩) l.length cap ∧ base ≤ g ∧ w.heap[g]? = some (.cells cur 45 (0, 0)) ∧ l.length ≤ cap ∧ cap ≤ maxLen ∧ cur.size = cap * 16 ∧ True := by
    rcases ho.2 with ⟨_, h0⟩ | ⟨g, cap, cur, hv, hb, hg, h4, h5, h6, h7⟩
    · omega
    · exact ⟨g, cap, cur, hv, hb, hg, h4, h5, h6, trivial⟩
  simp only [Value.slice.injEq, true_and] at hv
  obtain ⟨rfl, rfl⟩ := hv
  have hB : (Value.slice (some (Addr.mk g 0 none)) l.length c).ownBlock = some g := rfl
  have row : ∀ {W : World} {l' : List (Nat → Int)}, l'.length = l.length → W.ownsRow base 45 16 (.slice (some ⟨g, 0, none⟩) l.length c) l.length (l'.flatMap auC) → ∀ k, k < l.length → ∃ y, l'[k]? = some y ∧ AtL W g (0 + k * 16) (auC y) := fun hlen ho k hk => by
    rw [← hlen] at ho hk
    obtain ⟨y, b1, o1, hy, hp, hat⟩ := (RowA.own ho auC_length (by decide)).get hk
    obtain ⟨g', hg', hat'⟩ := own_at auC ho (fun y _ => auC_length y) (by decide) hy
    simp only [Option.some.injEq, Addr.mk.injEq, and_true] at hg'
    subst hg'
    exact ⟨y, hy, hat'⟩
  refine ⟨fun vs w' => ∃ x : Nat, vs = [.int .i64 (x : Int)] ∧ 1 ≤ x ∧ x ≤ l.length ∧ K0 w w' ∧ (∀ k a b, k + 1 < x → l[k]? = some a → l[k + 1]? = some b → auI a ≠ auI b),
    fun vs _ => (match vs with | .int _ a :: _ => l.length - a.toNat | _ => 0), ⟨1, rfl, by omega, by omega, .refl _ _, fun k a b h => by omega⟩, ?_⟩
  rintro x w1 ⟨x, hv, hx1, hxl, k1, hno⟩
  simp only [List.cons.injEq, Value.int.injEq, true_and, and_true] at hv
  subst hv
  have ho1 := owns_kp ho k1 (fun _ _ h => h)
  refine bsp_intro (fun hlt => ?_) (fun hge => ?_)
  · have hlt : x < l.length := by simp at hlt; omega
    obtain ⟨a, ha, hata⟩ := row rfl ho1 x hlt
    obtain ⟨b, hbb, hatb⟩ := row rfl ho1 (x - 1) (by omega)
    have e1 : IntKind.i64.wrap ((x : Int) - 1) = ((x - 1 : Nat) : Int) := by rw [wr64 (by omega) (by omega)]; omega
    rw [e1, Int.toNat_natCast, Int.toNat_natCast]
    refine nn_is rfl ⟨⟨by omega, by omega⟩, a, fun W hW => hata.k0 (hW.kk rfl), nn_is rfl ⟨⟨by omega, by omega⟩, b, fun W hW => hatb.k0 (hW.kk rfl), _, auEq (hb _ (List.mem_of_getElem? ha)) (hb _ (List.mem_of_getElem? hbb)), bsp_intro (fun hr => ?_) (fun hr => ?_)⟩⟩
    · have hr : auI a = auI b := by simpa using hr
      have hadj : adjI l := ⟨x - 1, b, a, hbb, by rw [Nat.sub_add_cancel hx1]; exact ha, hr.symm⟩
      refine ⟨⟨by omega, by omega⟩, fun W hW => ?_⟩
      have kW : K0 w W := k1.trans (hW.kk rfl)
      have eS : slA (some (Addr.mk g 0 none)) c x 16 = some ⟨g, x * 16, none⟩ := by
        unfold slA
        rw [if_neg (by omega)]
        simp [add_plain]
      rw [eS]
      refine ⟨fun vs w' => ∃ (x1 x2 : Nat) (l' : List (Nat → Int)), vs = [.int .i64 (x1 : Int), .int .i64 (x2 : Int)] ∧ 1 ≤ x1 ∧ x1 ≤ l.length - x ∧ x ≤ x2 ∧ x2 + 1 ≤ x + x1 ∧ l'.length = l.length ∧ (∀ m ∈ l', BY m) ∧
          w'.ownsRow base 45 16 (.slice (some ⟨g, 0, none⟩) l.length c) l.length (l'.flatMap auC) ∧ Kp (· = g) w w',
        fun vs _ => (match vs with | .int _ a :: _ => l.length - a.toNat | _ => 0), ⟨1, x, l, rfl, by omega, by omega, by omega, by omega, rfl, hb, owns_kp ho kW (fun _ _ h => h), kW.mono fun _ _ h => h.elim⟩, ?_⟩
      rintro y1 y2 w2 ⟨x1, x2, l', hv, h1, h3, h4, h5, hl', hb', ho2, k2⟩
      simp only [List.cons.injEq, Value.int.injEq, true_and, and_true] at hv
      obtain ⟨rfl, rfl⟩ := hv
      rw [Int.toNat_natCast, Int.toNat_natCast]
      refine bsp_intro (fun hlt2 => ?_) (fun hge2 => ?_)
      · have hlt2 : x1 < l.length - x := by simp at hlt2; omega
        obtain ⟨a2, ha2, hata2⟩ := row hl' ho2 (x + x1) (by omega)
        obtain ⟨b2, hb2, hatb2⟩ := row hl' ho2 (x + x1 - 1) (by omega)
        have e2 : IntKind.i64.wrap ((x1 : Int) - 1) = ((x1 - 1 : Nat) : Int) := by rw [wr64 (by omega) (by omega)]; omega
        have o1 : 0 + (x + x1) * 16 = x * 16 + x1 * 16 := by omega
        have o2 : 0 + (x + x1 - 1) * 16 = x * 16 + (x1 - 1) * 16 := by omega
        rw [o1] at hata2
        rw [o2] at hatb2
        rw [e2, Int.toNat_natCast]
        have inc1 : IntKind.i64.wrap ((x1 : Int) + 1) = ((x1 + 1 : Nat) : Int) := inc64 (by omega)
        have inc2 : IntKind.i64.wrap ((x2 : Int) + 1) = ((x2 + 1 : Nat) : Int) := inc64 (by omega)
        refine nn_is rfl ⟨⟨by omega, by omega⟩, a2, fun W hW => hata2.k0 (hW.kk rfl), nn_is rfl ⟨⟨by omega, by omega⟩, b2, fun W hW => hatb2.k0 (hW.kk rfl), _, auEq (hb' _ (List.mem_of_getElem? ha2)) (hb' _ (List.mem_of_getElem? hb2)), bsp_intro (fun hr2 => ?_) (fun hr2 => ?_)⟩⟩
        · refine nn_is rfl ⟨⟨by omega, by omega⟩, a2, fun W hW => hata2.k0 (hW.kk rfl), nn_is rfl ⟨⟨by omega, by omega⟩, fun W3 hW3 => ?_⟩⟩
          have k3 : K0 w2 W3 := hW3.kk rfl
          have ho3 := owns_kp ho2 k3 (fun _ _ h => h)
          obtain ⟨g', hg', hwr⟩ := own_wr ho3 (k := x2) (by omega)
          simp only [Option.some.injEq, Addr.mk.injEq, and_true] at hg'
          subst hg'
          refine ⟨hwr, fun w4 hp4 => ⟨.of_kp hp4.kp (fun n hn => by cases hn), ?_⟩⟩
          have ho4 := own_set (y := a2) ho3 hl'.symm auC_length (by decide) (by omega) hp4
          rw [inc1, inc2]
          refine ⟨⟨x1 + 1, x2 + 1, l'.set x2 a2, rfl, by omega, by omega, by omega, by omega, by rw [List.length_set]; exact hl', fun m hm => ?_, ho4, (k2.trans (k3.mono fun _ _ h => h.elim)).trans hp4.kp⟩, by simp only [Int.toNat_natCast]; omega⟩
          rcases List.mem_or_eq_of_mem_set hm with h | h
          · exact hb' m h
          · rw [h]; exact hb' _ (List.mem_of_getElem? ha2)
        · intro W3 hW3
          have k3 : K0 w2 W3 := hW3.kk rfl
          rw [inc1]
          exact ⟨⟨x1 + 1, x2, l', rfl, by omega, by omega, h4, by omega, hl', hb', owns_kp ho2 k3 (fun _ _ h => h), k2.trans (k3.mono fun _ _ h => h.elim)⟩, by simp only [Int.toNat_natCast]; omega⟩
      · have hge2 : x1 = l.length - x := by simp at hge2; omega
        obtain ⟨cur2, hcur, hsz⟩ : ∃ cur2, w2.heap[g]? = some (.cells cur2 45 (0, 0)) ∧ cur2.size = c * 16 := by
          rcases ho2.2 with ⟨hv, _⟩ | ⟨g', cap, cur2, hv, hb2, hg2, h42, h52, h62, h72⟩
          · simp at hv
          · simp only [Value.slice.injEq, true_and, Option.some.injEq, Addr.mk.injEq, and_true] at hv
            obtain ⟨rfl, rfl⟩ := hv
            exact ⟨cur2, hg2, h62⟩
        have eZ : slA (some (Addr.mk g 0 none)) c x2 16 = some ⟨g, x2 * 16, none⟩ := by
          unfold slA
          rw [if_neg (by omega)]
          simp [add_plain]
        obtain ⟨w3, hbl, k3, _⟩ := clear_row (P := Tryz.prog) (w := w2) (t := 28) Tryz.underlying28 zeroAu (b := g) (o := x2 * 16) (m := l.length - x2) (c := c - x2) hcur (by omega)
          (by rw [hsz]; show x2 * 16 + (l.length - x2) * 16 ≤ c * 16; omega) (fun v hv => auC_one _ v (by simpa [auV, Value.cells] using hv))
        rw [eZ]
        refine ⟨⟨by omega, by omega⟩, w3, hbl, .of_kp k3 (fun n hn => by cases hn), ⟨by omega, by omega⟩, ⟨x2, rfl, .inr ⟨by omega, hadj⟩⟩, (k2.trans k3).mono fun i _ e => by rw [hB, e]⟩
    · have hr : auI a ≠ auI b := by simpa using hr
      intro W hW
      rw [inc64 (by omega)]
      refine ⟨⟨x + 1, rfl, by omega, hlt, k1.trans (hW.kk rfl), fun k a' b' hk ha' hb' => ?_⟩, by simp only [Int.toNat_natCast]; omega⟩
      rcases Nat.lt_or_ge (k + 1) x with h | h
      · exact hno k a' b' h ha' hb'
      · have : k = x - 1 := by omega
        subst this
        rw [hbb] at ha'
        rw [Nat.sub_add_cancel hx1, ha] at hb'
        cases ha'; cases hb'
        exact fun e => hr e.symm
  · have : x = l.length := by simp at hge; omega
    subst this
    refine ⟨⟨_, rfl, .inl ⟨rfl, fun ⟨k, a, b, h1, h3, h4⟩ => ?_⟩⟩, k1.mono fun _ _ h => h.elim⟩
    exact hno k a b (List.getElem?_eq_some_iff.1 h3).1 h1 h3 h4

end Go.Proofs.YtfacflbmlfbeeaaGreatDoor

/- The formulas of functions by the symbolic evaluator, and that each gives the call's contract. Written by a program (gen.py). No condition. -/
namespace Go.Proofs.YtfacflbmlfbeeaaGreatDoor
set_option maxRecDepth 100000
set_option linter.unusedVariables false

def VC_mnew (room : Int) (days : Int) (w : World) (R : Ending → World → Prop) : Prop :=
 bsp (decide (room < 1) || decide (room > 10000) || decide (days < 1) || decide (days > 365))
 (R (Ending.returned (Value.tuple #[Value.pointer none, Value.int IntKind.i64 2])) w)
 (∀ (n : Nat) (w1 : World),
 NewB w (Obj.map #[] 0) n w1 →
 KeptL [] w w1 ∧
 ∀ (n_1 : Nat) (w1_1 : World),
 NewB w1 (Obj.map #[] 0) n_1 w1_1 →
 KeptL [] w1 w1_1 ∧
 ∀ (n_2 : Nat) (W : World),
 Loc w.heap.size
 [Blk.mk n_2 98
 [Value.int IntKind.i64 room, Value.int IntKind.i64 days, Value.int IntKind.i64 0, Value.map (some n),
 Value.map (some n_1)]
 2]
 w1_1 W →
 R (Ending.returned (Value.tuple #[Value.pointer (some (Addr.mk n_2 0 none)), Value.int IntKind.i64 0])) W)
theorem vc_mnew (room : Int) (days : Int) (w : World) (R : Ending → World → Prop) (h : VC_mnew room days w R) : Calls Tryz.prog 13 ([Value.int
    IntKind.i64 room,
  Value.int IntKind.i64 days] : List Value).toArray w R := by
  have e : execR2 { P := Tryz.prog, loops := [], pur := pur1, tails := [], joins := [], boxes := [] } Tryz.f13.results.toList R (Tryz.f13.body.getD .skip) (initF [Value.int
    IntKind.i64 room,
  Value.int IntKind.i64
    days] (Tryz.f13.ntmps - ([Value.int IntKind.i64 room,
  Value.int IntKind.i64 days] : List Value).length)) w = VC_mnew room days w R := by kernel_rfl
  have hb : Tryz.f13.body = some (Tryz.f13.body.getD .skip) := by kernel_rfl
  exact calls_of_exec2' (P := Tryz.prog) (fn := Tryz.f13) (c := Tryz.f13.body.getD .skip) (args := [Value.int
    IntKind.i64 room,
  Value.int IntKind.i64 days]) (w := w) (R := R) pur1_ok Tryz.func13 hb e h

def VC_ismod (b : Nat) (s : ByteArray) (a : Nat → Int) (w : World) (R : Ending → World → Prop) : Prop :=
 ∀ (n : Nat),
 ∃ (x : Option Nat),
 (∀ (W : World),
 Loc w.heap.size
 [Blk.mk n 45
 (arrI IntKind.u8 a 16 0)
 2]
 w W →
 W.cell? (Addr.mk b (0 + 3) none) = some (Value.map x)) ∧
 ∃ (p : Option Addr),
 ∃ (n_1 : Nat),
 ∃ (c : Nat),
 (∀ (W : World),
 Loc w.heap.size
 [Blk.mk n 45
 (arrI IntKind.u8 a 16 0)
 2]
 w W →
 LookP Tryz.prog 95 (Value.map x) (Value.string s) false (Value.slice p n_1 c) W) ∧
 ∀ (W : World),
 Loc w.heap.size
 [Blk.mk n 45
 (arrI IntKind.u8 a 16 0)
 2]
 w W →
 CallsS Tryz.prog 107
 #[Value.slice p n_1 c,
 Value.agg
 (arrI IntKind.u8 a 16 0).toArray]
 W fun (e : Ending) (w' : World) =>
 ∃ (x : Bool), e = Ending.returned (Value.bool x) ∧ KeptL [n] W w' ∧ R (Ending.returned (Value.bool x)) w'
theorem vc_ismod (b : Nat) (s : ByteArray) (a : Nat → Int) (w : World) (R : Ending → World → Prop) (h : VC_ismod b s a w R) : Calls Tryz.prog 75 ([Value.pointer
    (some { block := b, off := 0 }),
  Value.string s, Value.agg (arrI IntKind.u8 a 16 0).toArray] : List Value).toArray w R := by
  have e : execR2 { P := Tryz.prog, loops := [], pur := pur1, tails := [(1, 7)], joins := [], boxes := [] } Tryz.f75.results.toList R (Tryz.f75.body.getD .skip) (initF [Value.pointer
    (some { block := b, off := 0 }),
  Value.string s,
  Value.agg
    (arrI IntKind.u8 a 16
        0).toArray] (Tryz.f75.ntmps - ([Value.pointer (some { block := b, off := 0 }), Value.string s,
  Value.agg (arrI IntKind.u8 a 16 0).toArray] : List Value).length)) w = VC_ismod b s a w R := by kernel_rfl
  have hb : Tryz.f75.body = some (Tryz.f75.body.getD .skip) := by kernel_rfl
  exact calls_of_exec2' (P := Tryz.prog) (fn := Tryz.f75) (c := Tryz.f75.body.getD .skip) (args := [Value.pointer
    (some { block := b, off := 0 }),
  Value.string s, Value.agg (arrI IntKind.u8 a 16 0).toArray]) (w := w) (R := R) pur1_ok Tryz.func75 hb e h

def VC_submit (b : Nat) (i : Nat → Int) (s : ByteArray) (t : ByteArray) (now : Int) (w : World) (R : Ending → World → Prop) : Prop :=
 ∀ (n : Nat) (W : World),
 Loc w.heap.size
 [Blk.mk n 32
 (arrI IntKind.u8 i 32 0)
 2]
 w W →
 CallsS Tryz.prog 48 #[Value.pointer (some (Addr.mk b 0 none)), Value.int IntKind.i64 now] W
 fun (e : Ending) (w' : World) =>
 ∃ (x : Int),
 e = Ending.returned (Value.int IntKind.i64 x) ∧
 KeptL [n] W w' ∧
 bsp (x != 0) (R (Ending.returned (Value.int IntKind.i64 x)) w')
 (CallsS Tryz.prog 49 #[Value.string s] w' fun (e : Ending) (w'_1 : World) =>
 ∃ (x : Int),
 e = Ending.returned (Value.int IntKind.i64 x) ∧
 KeptL [n] w' w'_1 ∧
 bsp (x != 0) (R (Ending.returned (Value.int IntKind.i64 x)) w'_1)
 (∀ (n_1 : Nat) (W : World),
 Loc w.heap.size
 [Blk.mk n_1 103
 (arrI IntKind.u8 i 32 0 ++ [Value.string s])
 (wrM 2),
 Blk.mk n 32
 (arrI IntKind.u8 i 32 0)
 0]
 w'_1 W →
 ∃ (S : World → Prop),
 S W ∧
 ∃ (x : Option Nat),
 (∀ (w' : World), S w' → w'.cell? (Addr.mk b (0 + 4) none) = some (Value.map x)) ∧
 ∃ (f : Nat → Int),
 ∃ (x_1 : ByteArray),
 (∀ (w' : World),
 S w' →
 AtL w' n_1 0
 (arrI IntKind.u8 f 32 0 ++ [Value.string x_1])) ∧
 ∃ (f_1 : Nat → Int),
 ∃ (x_2 : ByteArray),
 ∃ (x_3 : ByteArray),
 ∃ (x_4 : Int),
 ∃ (x_5 : Int),
 ∃ (f_2 : Nat → Int),
 ∃ (x_6 : Int),
 ∃ (x_7 : ByteArray),
 ∃ (x_8 : Bool),
 ∃ (f_3 : Nat → Int),
 ∃ (x_9 : Int),
 ∃ (b_1 : Bool),
 (∀ (w' : World),
 S w' →
 LookP Tryz.prog 96 (Value.map x)
 (Value.agg
 (arrI IntKind.u8 f 32 0 ++ [Value.string x_1]).toArray)
 true
 (Value.tuple
 #[Value.agg
 (arrI IntKind.u8 f_1 32 0 ++ ([Value.string x_2,
 Value.string x_3, Value.int IntKind.i64 x_4, Value.int IntKind.i64 x_5] ++ arrI IntKind.u8 f_2 16 0 ++ ([Value.int IntKind.i64 x_6, Value.string x_7, Value.bool x_8] ++ arrI IntKind.u8 f_3 16 0 ++ [Value.int IntKind.i64 x_9]))).toArray,
 Value.bool b_1])
 w') ∧
 ∀ (n_2 : Nat) (w1 : World),
 NewB W
 (Obj.cells
 #[Value.int IntKind.u8 0, Value.int IntKind.u8 0, Value.int IntKind.u8 0,
 Value.int IntKind.u8 0, Value.int IntKind.u8 0, Value.int IntKind.u8 0,
 Value.int IntKind.u8 0, Value.int IntKind.u8 0, Value.int IntKind.u8 0,
 Value.int IntKind.u8 0, Value.int IntKind.u8 0, Value.int IntKind.u8 0,
 Value.int IntKind.u8 0, Value.int IntKind.u8 0, Value.int IntKind.u8 0,
 Value.int IntKind.u8 0, Value.int IntKind.u8 0, Value.int IntKind.u8 0,
 Value.int IntKind.u8 0, Value.int IntKind.u8 0, Value.int IntKind.u8 0,
 Value.int IntKind.u8 0, Value.int IntKind.u8 0, Value.int IntKind.u8 0,
 Value.int IntKind.u8 0, Value.int IntKind.u8 0, Value.int IntKind.u8 0,
 Value.int IntKind.u8 0, Value.int IntKind.u8 0, Value.int IntKind.u8 0,
 Value.int IntKind.u8 0, Value.int IntKind.u8 0, Value.string (ByteArray.mk #[]),
 Value.string (ByteArray.mk #[]), Value.int IntKind.i64 0,
 Value.int IntKind.i64 0, Value.int IntKind.u8 0, Value.int IntKind.u8 0,
 Value.int IntKind.u8 0, Value.int IntKind.u8 0, Value.int IntKind.u8 0,
 Value.int IntKind.u8 0, Value.int IntKind.u8 0, Value.int IntKind.u8 0,
 Value.int IntKind.u8 0, Value.int IntKind.u8 0, Value.int IntKind.u8 0,
 Value.int IntKind.u8 0, Value.int IntKind.u8 0, Value.int IntKind.u8 0,
 Value.int IntKind.u8 0, Value.int IntKind.u8 0, Value.int IntKind.i64 0,
 Value.string (ByteArray.mk #[]), Value.bool false, Value.int IntKind.u8 0,
 Value.int IntKind.u8 0, Value.int IntKind.u8 0, Value.int IntKind.u8 0,
 Value.int IntKind.u8 0, Value.int IntKind.u8 0, Value.int IntKind.u8 0,
 Value.int IntKind.u8 0, Value.int IntKind.u8 0, Value.int IntKind.u8 0,
 Value.int IntKind.u8 0, Value.int IntKind.u8 0, Value.int IntKind.u8 0,
 Value.int IntKind.u8 0, Value.int IntKind.u8 0, Value.int IntKind.u8 0,
 Value.int IntKind.i64 0]
 107)
 n_2 w1 →
 S w1 ∧
 WrL w1 n_2 0 72 ∧
 ∀ (w1_1 : World),
 PutB w1 n_2 0
 (arrI IntKind.u8 f_1 32 0 ++ ([Value.string x_2, Value.string x_3, Value.int IntKind.i64 x_4,
 Value.int IntKind.i64 x_5] ++ arrI IntKind.u8 f_2 16 0 ++ ([Value.int IntKind.i64 x_6, Value.string x_7,
 Value.bool x_8] ++ arrI IntKind.u8 f_3 16 0 ++ [Value.int IntKind.i64 x_9])))
 w1_1 →
 KeptL [n_1, n] W w1_1 ∧
 bsp (decide ((↑t.size : Int) > 65536))
 (R (Ending.returned (Value.int IntKind.i64 5)) w1_1)
 (∃ (x : Option Nat),
 w1_1.cell? (Addr.mk b (0 + 3) none) = some (Value.map x) ∧
 ∃ (p : Option Addr),
 ∃ (n_3 : Nat),
 ∃ (c : Nat),
 LookP Tryz.prog 95 (Value.map x) (Value.string s) false
 (Value.slice p n_3 c) w1_1 ∧
 bsp ((↑n_3 : Int) == 0)
 (R (Ending.returned (Value.int IntKind.i64 33)) w1_1)
 (bsp b_1 (R (Ending.returned (Value.int IntKind.i64 7)) w1_1)
 (∃ (x : Int),
 (∀ (W : World),
 Loc w.heap.size
 [Blk.mk n_1 103
 (arrI IntKind.u8 i 32 0 ++ [Value.string s])
 0,
 Blk.mk n 32
 (arrI IntKind.u8 i 32 0)
 0]
 w1_1 W →
 W.cell? (Addr.mk b (0 + 2) none) =
 some (Value.int IntKind.i64 x)) ∧
 ∃ (x_10 : Int),
 (∀ (W : World),
 Loc w.heap.size
 [Blk.mk n_1 103
 (arrI IntKind.u8 i 32 0 ++ [Value.string s])
 0,
 Blk.mk n 32
 (arrI IntKind.u8 i 32 0)
 0]
 w1_1 W →
 W.cell? (Addr.mk b 0 none) =
 some (Value.int IntKind.i64 x_10)) ∧
 bsp (decide (x ≥ x_10))
 (∀ (W : World),
 Loc w.heap.size
 [Blk.mk n_1 103
 (arrI IntKind.u8 i 32 0 ++ [Value.string s])
 0,
 Blk.mk n 32
 (arrI IntKind.u8 i 32 0)
 0]
 w1_1 W →
 R (Ending.returned (Value.int IntKind.i64 9)) W)
 (∃ (x : Option Nat),
 (∀ (W : World),
 Loc w.heap.size
 [Blk.mk n_1 103
 (arrI IntKind.u8 i 32 0 ++ [Value.string s])
 0,
 Blk.mk n 32
 (arrI IntKind.u8 i 32 0)
 0]
 w1_1 W →
 W.cell? (Addr.mk b (0 + 4) none) = some (Value.map x)) ∧
 ∀ (W : World),
 Loc w.heap.size
 [Blk.mk n_1 103
 (arrI IntKind.u8 i 32 0 ++ [Value.string s])
 0,
 Blk.mk n 32
 (arrI IntKind.u8 i 32 0)
 0]
 w1_1 W →
 ∃ (w1 : World),
 UpdP Tryz.prog 96 (Value.map x)
 (Value.agg
 (arrI IntKind.u8 i 32 0 ++ [Value.string s]).toArray)
 (Value.agg
 (arrI IntKind.u8 i 32 0 ++ [Value.string s,
 Value.string t, Value.int IntKind.i64 now,
 Value.int IntKind.i64 0, Value.int IntKind.u8 0,
 Value.int IntKind.u8 0, Value.int IntKind.u8 0,
 Value.int IntKind.u8 0, Value.int IntKind.u8 0,
 Value.int IntKind.u8 0, Value.int IntKind.u8 0,
 Value.int IntKind.u8 0, Value.int IntKind.u8 0,
 Value.int IntKind.u8 0, Value.int IntKind.u8 0,
 Value.int IntKind.u8 0, Value.int IntKind.u8 0,
 Value.int IntKind.u8 0, Value.int IntKind.u8 0,
 Value.int IntKind.u8 0, Value.int IntKind.i64 0,
 Value.string (ByteArray.mk #[]), Value.bool false,
 Value.int IntKind.u8 0, Value.int IntKind.u8 0,
 Value.int IntKind.u8 0, Value.int IntKind.u8 0,
 Value.int IntKind.u8 0, Value.int IntKind.u8 0,
 Value.int IntKind.u8 0, Value.int IntKind.u8 0,
 Value.int IntKind.u8 0, Value.int IntKind.u8 0,
 Value.int IntKind.u8 0, Value.int IntKind.u8 0,
 Value.int IntKind.u8 0, Value.int IntKind.u8 0,
 Value.int IntKind.u8 0, Value.int IntKind.u8 0,
 Value.int IntKind.i64 0]).toArray)
 W w1 ∧
 KeptL [n_1, n] W w1 ∧
 ∃ (x : Int),
 w1.cell? (Addr.mk b (0 + 2) none) =
 some (Value.int IntKind.i64 x) ∧
 ((∃ (u : Value),
 w1.cell? (Addr.mk b (0 + 2) none) = some u) ∧
 w1.frozen? (Addr.mk b (0 + 2) none) = false) ∧
 ∀ (w1_2 : World),
 PutB w1 b (0 + 2)
 [Value.int IntKind.i64 (IntKind.i64.wrap (x + 1))]
 w1_2 →
 KeptL [n_1, n] w1 w1_2 ∧
 R (Ending.returned (Value.int IntKind.i64 0))
 w1_2))))))
theorem vc_submit (b : Nat) (i : Nat → Int) (s : ByteArray) (t : ByteArray) (now : Int) (w : World) (R : Ending → World → Prop) (h : VC_submit b i s t now w R) : Calls Tryz.prog 18 ([Value.pointer
    (some { block := b, off := 0 }),
  Value.agg (arrI IntKind.u8 i 32 0).toArray, Value.string s, Value.string t,
  Value.int IntKind.i64 now] : List Value).toArray w R := by
  have e : execR2 { P := Tryz.prog, loops := [], pur := pur1, tails := [(8, 9), (17, 11)], joins := [], boxes := [] } Tryz.f18.results.toList R (Tryz.f18.body.getD .skip) (initF [Value.pointer
    (some { block := b, off := 0 }),
  Value.agg (arrI IntKind.u8 i 32 0).toArray, Value.string s, Value.string t,
  Value.int IntKind.i64
    now] (Tryz.f18.ntmps - ([Value.pointer (some { block := b, off := 0 }), Value.agg (arrI IntKind.u8 i 32 0).toArray,
  Value.string s, Value.string t,
  Value.int IntKind.i64 now] : List Value).length)) w = VC_submit b i s t now w R := by kernel_rfl
  have hb : Tryz.f18.body = some (Tryz.f18.body.getD .skip) := by kernel_rfl
  exact calls_of_exec2' (P := Tryz.prog) (fn := Tryz.f18) (c := Tryz.f18.body.getD .skip) (args := [Value.pointer
    (some { block := b, off := 0 }),
  Value.agg (arrI IntKind.u8 i 32 0).toArray, Value.string s, Value.string t,
  Value.int IntKind.i64 now]) (w := w) (R := R) pur1_ok Tryz.func18 hb e h

def VC_selected (b : Nat) (f : FuncId) (fa : Array Value) (fb : Array Value) (w : World) (R : Ending → World → Prop) : Prop :=
 ∃ (x : Option Nat),
 w.cell? (Addr.mk b (0 + 4) none) = some (Value.map x) ∧
 ∃ (n : Nat),
 ∃ (w1 : World),
 RngP Tryz.prog 96 (Value.map x) n w w1 ∧
 KeptL [] w w1 ∧
 ∃ (I : List Value → World → Prop),
 ∃ (m : List Value → World → Nat),
 I [Value.slice none 0 0] w1 ∧
 ∀ (p : Option Addr) (n_1 c : Nat) (w' : World),
 I [Value.slice p n_1 c] w' →
 ∃ (b : Bool),
 ∃ (r : List Value),
 ∃ (w1 : World),
 NxtP Tryz.prog (Value.pointer (some (Addr.mk n 0 none))) b r w' w1 ∧
 KeptL [] w' w1 ∧
 bsp b
 (∃ (f_1 : Nat → Int),
 ∃ (x : ByteArray),
 ∃ (f_2 : Nat → Int),
 ∃ (x_1 : ByteArray),
 ∃ (x_2 : ByteArray),
 ∃ (x_3 : Int),
 ∃ (x_4 : Int),
 ∃ (f_3 : Nat → Int),
 ∃ (x_5 : Int),
 ∃ (x_6 : ByteArray),
 ∃ (x_7 : Bool),
 ∃ (f_4 : Nat → Int),
 ∃ (x_8 : Int),
 EntP Tryz.prog (Value.pointer (some (Addr.mk n 0 none)))
 (Value.tuple
 #[Value.agg
 (arrI IntKind.u8 f_1 32 0 ++ [Value.string x]).toArray,
 Value.agg
 (arrI IntKind.u8 f_2 32 0 ++ ([Value.string x_1,
 Value.string x_2, Value.int IntKind.i64 x_3, Value.int IntKind.i64 x_4] ++ arrI IntKind.u8 f_3 16 0 ++ ([Value.int IntKind.i64 x_5, Value.string x_6, Value.bool x_7] ++ arrI IntKind.u8 f_4 16 0 ++ [Value.int IntKind.i64 x_8]))).toArray])
 w1 ∧
 ∀ (n : Nat) (W : World),
 Loc w.heap.size
 [Blk.mk n 107
 (arrI IntKind.u8 f_2 32 0 ++ ([Value.string x_1,
 Value.string x_2, Value.int IntKind.i64 x_3, Value.int IntKind.i64 x_4] ++ arrI IntKind.u8 f_3 16 0 ++ ([Value.int IntKind.i64 x_5, Value.string x_6, Value.bool x_7] ++ arrI IntKind.u8 f_4 16 0 ++ [Value.int IntKind.i64 x_8])))
 (wrM 2)]
 w1 W →
 ∃ (f_5 : Nat),
 ∃ (a : Array Value),
 ∃ (b : Array Value),
 Value.func (Fn.func f) fa fb = Value.func (Fn.func f_5) a b ∧
 okFn Tryz.prog f_5 = true ∧
 CallsS Tryz.prog f_5
 (appA a
 [Value.agg
 (arrI IntKind.u8 f_2 32 0 ++ ([Value.string x_1, Value.string x_2, Value.int IntKind.i64 x_3,
 Value.int IntKind.i64 x_4] ++ arrI IntKind.u8 f_3 16 0 ++ ([Value.int IntKind.i64 x_5, Value.string x_6,
 Value.bool x_7] ++ arrI IntKind.u8 f_4 16 0 ++ [Value.int IntKind.i64 x_8]))).toArray]
 b)
 W fun (e : Ending) (w'_1 : World) =>
 ∃ (x : Bool),
 e = Ending.returned (Value.bool x) ∧
 KeptL [n] W w'_1 ∧
 bsp x
 (∀ (n_2 : Nat) (W : World),
 Loc w.heap.size
 [Blk.mk n_2 48
 (arrI IntKind.u8 f_2 32 0 ++ ([Value.string x_1, Value.string x_2, Value.int IntKind.i64 x_3,
 Value.int IntKind.i64 x_4] ++ arrI IntKind.u8 f_3 16 0 ++ [Value.int IntKind.i64 x_5,
 Value.string x_6]))
 2,
 Blk.mk n 107
 (arrI IntKind.u8 f_2 32 0 ++ ([Value.string x_1, Value.string x_2, Value.int IntKind.i64 x_3,
 Value.int IntKind.i64 x_4] ++ arrI IntKind.u8 f_3 16 0 ++ ([Value.int IntKind.i64 x_5,
 Value.string x_6, Value.bool x_7] ++ arrI IntKind.u8 f_4 16 0 ++ [Value.int IntKind.i64 x_8])))
 0]
 w'_1 W →
 ∃ (base : Nat),
 ∃ (xs : List Value),
 W.ownsRow base 48 54 (Value.slice p n_1 c) n_1 xs ∧
 n_1 + 1 ≤ 9223372036854775807 ∧
 (n_1 + 1) * 120 ≤ 140737488355328 ∧
 base ≤ W.heap.size ∧
 ∀ (p' : Option Addr) (c' : Nat) (w'_2 : World),
 w'_2.ownsRow base 48 54 (Value.slice p' (n_1 + 1) c') (n_1 + 1)
 (xs ++
 (arrI IntKind.u8 f_2 32 0 ++ ([Value.string x_1, Value.string x_2, Value.int IntKind.i64 x_3,
 Value.int IntKind.i64 x_4] ++ arrI IntKind.u8 f_3 16 0 ++ [Value.int IntKind.i64 x_5,
 Value.string x_6]))) →
 W.grownBy w'_2 (Value.slice p n_1 c).ownBlock →
 AppL W p n_1 c 1 p' c' →
 KeptL [n] W w'_2 ∧
 I [Value.slice p' (n_1 + 1) c'] w'_2 ∧
 m [Value.slice p' (n_1 + 1) c'] w'_2 <
 m [Value.slice p n_1 c] w')
 (I [Value.slice p n_1 c] w'_1 ∧
 m [Value.slice p n_1 c] w'_1 < m [Value.slice p n_1 c] w'))
 (R (Ending.returned (Value.slice p n_1 c)) w1)
theorem vc_selected (b : Nat) (f : FuncId) (fa : Array Value) (fb : Array Value) (w : World) (R : Ending → World → Prop) (h : VC_selected b f fa fb w R) : Calls Tryz.prog 65 ([Value.pointer
    (some { block := b, off := 0 }),
  Value.func (Fn.func f) fa fb] : List Value).toArray w R := by
  have e : execR2 { P := Tryz.prog, loops := [(5, [(5, Ck.slice)])], pur := pur1, tails := [], joins := [], boxes := [], rngs := [(14, 96)] } Tryz.f65.results.toList R (Tryz.f65.body.getD .skip) (initF [Value.pointer
    (some { block := b, off := 0 }),
  Value.func (Fn.func f) fa
    fb] (Tryz.f65.ntmps - ([Value.pointer (some { block := b, off := 0 }),
  Value.func (Fn.func f) fa fb] : List Value).length)) w = VC_selected b f fa fb w R := by kernel_rfl
  have hb : Tryz.f65.body = some (Tryz.f65.body.getD .skip) := by kernel_rfl
  exact calls_of_exec2' (P := Tryz.prog) (fn := Tryz.f65) (c := Tryz.f65.body.getD .skip) (args := [Value.pointer
    (some { block := b, off := 0 }),
  Value.func (Fn.func f) fa fb]) (w := w) (R := R) pur1_ok Tryz.func65 hb e h

end Go.Proofs.YtfacflbmlfbeeaaGreatDoor

/- Chapter 39: a queue is read and written; the contracts of begin, New, isModerator, Moderators, of leases. The library's variable MaxLen holds a number. -/
namespace Go.Proofs.YtfacflbmlfbeeaaGreatDoor
open Go.RowKit Go.Sort Go.Maps

/-! ### What is kept -/
/-- A block without bytes. -/
def NU (w : World) (k : Nat) : Prop := ∀ o i, ¬ w.cell? ⟨k, o, none⟩ = some (.int .u8 i)
theorem RowA.kpU {α : Type} {f : α → List Value} {L : Nat} {w w' : World} {p : Option Addr} {l : List α} {M : Nat → Prop} (h : RowA f L w p l) (hf : ∀ y, ∃ i, (f y)[0]? = some (.int .u8 i)) (hk : Kp M w w') (hm : ∀ k, M k → NU w k) : RowA f L w' p l := fun k y hy => by
  obtain ⟨b, o, h1, h2⟩ := h k y hy
  refine ⟨b, o, h1, ⟨At_of _ _ fun j u hu => hk.cell' (h2.cell hu) (fun e => ?_)⟩⟩
  obtain ⟨i, hi⟩ := hf y
  exact hm b e _ _ (h2.cell hi)
theorem auC_u (y : Nat → Int) : ∃ i, (auC y)[0]? = some (.int .u8 i) := ⟨y 0, rfl⟩
theorem nu_map {w : World} {k : Nat} {es : Array MapEntry} {c : Nat} (h : w.heap[k]? = some (.map es c)) : NU w k := fun o i hc => by
  unfold World.cell? at hc
  simp only [h] at hc
  cases hc
theorem cell_ne_map39 {w : World} {g o mb : Nat} {v : Value} {es : Array MapEntry} {c : Nat} (h : w.cell? ⟨g, o, none⟩ = some v) (hm : w.heap[mb]? = some (.map es c)) : g ≠ mb := fun e => by
  subst e
  unfold World.cell? at h
  simp only [hm] at h
  cases h
/-- The blocks of a queue. -/
def QB (b mb eb : Nat) (k : Nat) : Prop := k = b ∨ k = mb ∨ k = eb
section
variable {w w' : World} {b mb eb : Nat} {q : Qu}
theorem Mq.k0 (h : Mq w b mb eb q) (hk : K0 w w') : Mq w' b mb eb q :=
  ⟨hk.blk h.st (fun h => h), h.mm.kp hk (fun h => h), h.me.kp hk (fun h => h), fun g x hx => (h.row g x hx).k0 hk, h.ne, h.nz⟩
theorem Mq.bm (h : Mq w b mb eb q) : b ≠ mb := fun e => by
  obtain ⟨es, c, hb, _⟩ := h.mm.blk
  have := h.st
  rw [e, hb] at this; cases this
theorem Mq.be (h : Mq w b mb eb q) : b ≠ eb := fun e => by
  obtain ⟨es, c, hb, _⟩ := h.me.blk
  have := h.st
  rw [e, hb] at this; cases this
theorem Mq.nu (h : Mq w b mb eb q) : ∀ k, QB b mb eb k → NU w k := fun k hk => by
  rcases hk with rfl | rfl | rfl
  · intro o i hc
    unfold World.cell? at hc
    simp only [h.st] at hc
    rcases o with _ | _ | _ | _ | _ | o <;> simp at hc
  · obtain ⟨es, c, hb, _⟩ := h.mm.blk; exact nu_map hb
  · obtain ⟨es, c, hb, _⟩ := h.me.blk; exact nu_map hb
theorem Mq.gw (h : Mq w b mb eb q) (hk : Kp (QB b mb eb) w w') (hG : GW w) : GW w' := hG.kp hk (fun e => by
  rcases e with e | e | e
  · exact h.nz e.symm
  · obtain ⟨es, c, hb, _⟩ := h.mm.blk
    obtain ⟨m, hm⟩ := hG
    exact cell_ne_map39 hm hb e
  · obtain ⟨es, c, hb, _⟩ := h.me.blk
    obtain ⟨m, hm⟩ := hG
    exact cell_ne_map39 hm hb e)
theorem Mq.cR (h : Mq w b mb eb q) : w.cell? ⟨b, 0, none⟩ = some (.int .i64 q.room) := cell_at h.st rfl
theorem Mq.cW (h : Mq w b mb eb q) : w.cell? ⟨b, 0 + 2, none⟩ = some (.int .i64 q.wt) := cell_at h.st rfl
theorem Mq.cM (h : Mq w b mb eb q) : w.cell? ⟨b, 0 + 3, none⟩ = some (.map (some mb)) := cell_at h.st rfl
theorem Mq.cE (h : Mq w b mb eb q) : w.cell? ⟨b, 0 + 4, none⟩ = some (.map (some eb)) := cell_at h.st rfl
/-- The moderators of a group. -/
def Qu.md (q : Qu) (g : ByteArray) : MX := (aget q.ms g).getD mxz
def Qu.en (q : Qu) (k : Ky) : En := (aget q.es k).getD enz
theorem zeroMs (w : World) : (zeroValue 28).run Tryz.prog w = .ok (mxV mxz) w := by kernel_rfl
theorem zeroEn (w : World) : (zeroValue 107).run Tryz.prog w = .ok (enV enz) w := by kernel_rfl
theorem Mq.lookM (h : Mq w b mb eb q) {g : ByteArray} (hg : g.size ≤ 1073741824) : LookP Tryz.prog 95 (.map (some mb)) (.string g) false (mxV (q.md g)) w := by
  obtain ⟨kl, hkl⟩ := stKey hg
  have := MapB.look stInj h.mm stKeyed Tryz.underlying95 (zeroMs w) hkl false
  rw [aget_amap] at this
  unfold Qu.md
  cases hgt : aget q.ms g with
  | none => rw [hgt] at this; exact this
  | some x => rw [hgt] at this; exact this
theorem Mq.rowM (h : Mq w b mb eb q) (g : ByteArray) : RowA auC 16 w (q.md g).p (q.md g).l := by
  unfold Qu.md
  cases hgt : aget q.ms g with
  | none => exact RowA.nil
  | some x => exact h.row g x hgt
theorem Mq.lookE (h : Mq w b mb eb q) {f : Nat → Int} (hf : BY f) {g : ByteArray} (hg : g.size ≤ 1073741824) : LookP Tryz.prog 96 (.map (some eb)) (.agg (arrI .u8 f 32 0 ++ ([.string g] : List Value)).toArray) true (.tuple #[enV (q.en (idI f, g)), .bool (aget q.es (idI f, g)).isSome]) w := by
  obtain ⟨kl, hkl⟩ := kyKey (k := (idI f, g)) (idI_len f) (idI_bd hf) hg
  have := MapB.look kyV_inj h.me kyKeyed Tryz.underlying96 (zeroEn w) hkl true
  rw [aget_amap] at this
  unfold Qu.en
  cases hgt : aget q.es (idI f, g) with
  | none => rw [hgt] at this; exact this
  | some x => rw [hgt] at this; exact this
/-- An entry is written. -/
theorem Mq.updE (h : Mq w b mb eb q) (x : En) {f : Nat → Int} (hf : BY f) {g : ByteArray} (hg : g.size ≤ 1073741824) :
    ∃ w1, UpdP Tryz.prog 96 (.map (some eb)) (.agg (arrI .u8 f 32 0 ++ ([.string g] : List Value)).toArray) (enV x) w w1 ∧ Mq w1 b mb eb { q with es := aset q.es (idI f, g) x } ∧ Kp (· = eb) w w1 := by
  obtain ⟨kl, hkl⟩ := kyKey (k := (idI f, g)) (idI_len f) (idI_bd hf) hg
  obtain ⟨w1, hu, hm, hk⟩ := MapB.upd kyV_inj h.me kyKeyed Tryz.underlying96 hkl (enV x)
  rw [aset_amap] at hm
  exact ⟨w1, hu, ⟨hk.blk h.st h.be, h.mm.kp hk h.ne, hm, fun g x hx => (h.row g x hx).kpU auC_u hk (fun k e => h.nu k (.inr (.inr e))), h.ne, h.nz⟩, hk⟩
/-- The moderators of a group are written. -/
theorem Mq.updM (h : Mq w b mb eb q) (x : MX) (hx : RowA auC 16 w x.p x.l) {g : ByteArray} (hg : g.size ≤ 1073741824) :
    ∃ w1, UpdP Tryz.prog 95 (.map (some mb)) (.string g) (mxV x) w w1 ∧ Mq w1 b mb eb { q with ms := aset q.ms g x } ∧ Kp (· = mb) w w1 := by
  obtain ⟨kl, hkl⟩ := stKey hg
  obtain ⟨w1, hu, hm, hk⟩ := MapB.upd stInj h.mm stKeyed Tryz.underlying95 hkl (mxV x)
  rw [aset_amap] at hm
  have nu := fun k (e : k = mb) => h.nu k (.inr (.inl e))
  refine ⟨w1, hu, ⟨hk.blk h.st h.bm, hm, h.me.kp hk (fun e => h.ne e.symm), fun g' y hy => ?_, h.ne, h.nz⟩, hk⟩
  have hy : aget (aset q.ms g x) g' = some y := hy
  rw [aget_aset] at hy
  split at hy
  · cases hy; exact hx.kpU auC_u hk nu
  · exact (h.row g' y hy).kpU auC_u hk nu
theorem Mq.delM (h : Mq w b mb eb q) {g : ByteArray} (hg : g.size ≤ 1073741824) :
    ∃ w1, BltP Tryz.prog .delete [95, 9] [.map (some mb), .string g] w w1 ∧ Mq w1 b mb eb { q with ms := adel q.ms g } ∧ Kp (· = mb) w w1 := by
  obtain ⟨kl, hkl⟩ := stKey hg
  obtain ⟨w1, hu, hm, hk⟩ := MapB.del stInj h.mm stKeyed Tryz.underlying95 hkl
  have e : adel (amap mxV q.ms) g = amap mxV (adel q.ms g) := by unfold adel amap; rw [List.filter_map]; rfl
  rw [e] at hm
  have nu := fun k (e : k = mb) => h.nu k (.inr (.inl e))
  refine ⟨w1, hu, ⟨hk.blk h.st h.bm, hm, h.me.kp hk (fun e => h.ne e.symm), fun g' y hy => ?_, h.ne, h.nz⟩, hk⟩
  have hy : aget (adel q.ms g) g' = some y := hy
  rw [aget_adel] at hy
  split at hy
  · cases hy
  · exact (h.row g' y hy).kpU auC_u hk nu
/-- The number of waiting submissions is written. -/
theorem Mq.putW (h : Mq w b mb eb q) {v : Int} (hp : PutB w b (0 + 2) [.int .i64 v] w') : Mq w' b mb eb { q with wt := v } := by
  refine ⟨?_, h.mm.kp hp.kp (fun e => h.bm e.symm), h.me.kp hp.kp (fun e => h.be e.symm), fun g x hx => (h.row g x hx).kpU auC_u hp.kp (fun k e => h.nu k (.inl e)), h.ne, h.nz⟩
  rw [hp.block h.st]; rfl
theorem Mq.wrW (h : Mq w b mb eb q) : (∃ u : Value, w.cell? ⟨b, 0 + 2, none⟩ = some u) ∧ w.frozen? ⟨b, 0 + 2, none⟩ = false := ⟨⟨_, h.cW⟩, frozen_block h.st _⟩
end

/-! ### Small functions -/
def minB (now : Int) : Bool := decide (0 ≤ now) && decide (now ≤ 105190559)
theorem isMin_any (now : Int) (w : World) : Calls Tryz.prog 86 #[.int .i64 now] w fun e w' => e = .returned (.bool (minB now)) ∧ K0 w w' :=
  vc_isMin now w _ ⟨rfl, .refl _ _⟩
theorem begin_any (b : Nat) (now : Int) (w : World) : Calls Tryz.prog 48 #[.pointer (some ⟨b, 0, none⟩), .int .i64 now] w fun e w' => e = .returned (.int .i64 (if minB now = true then 0 else 2)) ∧ K0 w w' := by
  refine vc_begin_ _ now w _ (bsp_intro (fun h => by cases h) (fun _ => ⟨(isMin_any now w).mono fun e w1 ⟨he, k1⟩ => ⟨_, he, .of_k0 k1, ?_⟩⟩))
  refine bsp_intro (fun h => ?_) (fun h => ?_)
  · have h : minB now = false := by simpa using h
    rw [h]; exact ⟨rfl, k1⟩
  · have h : minB now = true := by simpa using h
    rw [h]; exact ⟨rfl, k1⟩
def newR (room days : Int) : Bool := decide (room < 1) || decide (10000 < room) || decide (days < 1) || decide (365 < days)
theorem mnew_any (room days : Int) (w : World) (hw : 0 < w.heap.size) : Calls Tryz.prog 13 #[.int .i64 room, .int .i64 days] w fun e w' =>
    (newR room days = true ∧ e = .returned (.tuple #[.pointer none, .int .i64 2]) ∧ K0 w w') ∨
    (newR room days = false ∧ ∃ b mb eb, e = .returned (.tuple #[.pointer (some ⟨b, 0, none⟩), .int .i64 0]) ∧ Mq w' b mb eb ⟨room, days, 0, [], []⟩ ∧ K0 w w' ∧ w.heap.size ≤ b ∧ w.heap.size ≤ mb ∧ w.heap.size ≤ eb) := by
  refine vc_mnew room days w _ (bsp_intro (fun h => .inl ⟨h, rfl, .refl _ _⟩) (fun h => fun mb w1 h1 => ⟨.of_k0 (h1.kp _), fun eb w2 h2 => ⟨.of_k0 (h2.kp _), fun b W hW => .inr ⟨h, b, mb, eb, rfl, ?_, ?_⟩⟩⟩))
  · have k2 : K0 w2 W := hW.kk rfl
    have k1 : K0 w1 W := (h2.kp _).trans k2
    have gb := hW.fresh 0 rfl rfl
    have g1 := h1.ge
    have g2 := h2.ge
    have s1 := h1.size
    refine ⟨hW.cells 0 rfl, (NewB.map h1).kp k1 (fun h => h), (NewB.map h2).kp k2 (fun h => h), (fun g x hx => by cases hx), (fun e => by omega), fun e => ?_⟩
    have gb : w2.heap.size ≤ b := gb
    have := (h2.kp (fun _ => False)).size
    have e : b = 0 := e
    omega
  · have gb : w2.heap.size ≤ b := hW.fresh 0 rfl rfl
    have := (h1.kp (fun _ => False)).size
    have := (h2.kp (fun _ => False)).size
    exact ⟨((h1.kp _).trans (h2.kp _)).trans (hW.kk rfl), by omega, h1.ge, by have := h2.ge; omega⟩
def isMB (x : MX) (a : Nat → Int) : Bool := decide (auI a ∈ x.l.map auI)
theorem ismod_any {w : World} {b mb eb : Nat} {q : Qu} (h : Mq w b mb eb q) (ho : q.OK) (g : ByteArray) (hg : g.size ≤ 1073741824) (a : Nat → Int) (ha : BY a) :
    Calls Tryz.prog 75 #[.pointer (some ⟨b, 0, none⟩), .string g, .agg (arrI .u8 a 16 0).toArray] w fun e w' => e = .returned (.bool (isMB (q.md g) a)) ∧ K0 w w' := by
  refine vc_ismod b g a w _ (fun n => ⟨some mb, fun W hW => (h.k0 (hW.kk rfl)).cM, _, _, _, fun W hW => (h.k0 (hW.kk rfl)).lookM hg, fun W hW => ?_⟩)
  have kW : K0 w W := hW.kk rfl
  have hb : (∀ m ∈ (q.md g).l, BY m) ∧ (q.md g).l.length ≤ 8 := by
    unfold Qu.md
    cases hgt : aget q.ms g with
    | none => exact ⟨(fun m hm => by cases hm), by decide⟩
    | some x => exact ⟨fun m hm => ((ho.ms g x hgt).2.1.by_ m hm).1, (ho.ms g x hgt).2.1.len⟩
  exact ⟨(acont_any (q.md g).l (q.md g).p (q.md g).c a W ((h.k0 kW).rowM g) hb.1 ha (by omega)).mono fun e w2 ⟨he, k2⟩ => ⟨_, he, .of_k0 k2, rfl, kW.trans k2⟩⟩
theorem inEff_any (x : En) (now : Int) (hs : 0 ≤ x.si ∧ x.si ≤ 105190559) (hn : 0 ≤ now ∧ now ≤ 105190559) (w : World) :
    Calls Tryz.prog 81 #[.agg (([.bool x.le] : List Value) ++ (arrI .u8 x.ho 16 0 ++ ([.int .i64 x.si] : List Value))).toArray, .int .i64 now] w fun e w' => e = .returned (.bool (inE x now)) ∧ K0 w w' := by
  refine vc_inEff x.le x.ho x.si now w _ (fun n => ⟨x.si, gimp_intro fun _ W hW => cell_at (hW.cells 0 rfl) rfl, x.si, gimp_intro fun _ W hW => cell_at (hW.cells 0 rfl) rfl, fun W hW => ⟨?_, hW.kk rfl⟩⟩)
  unfold inE
  rw [wr64 (by omega) (by omega), Bool.and_assoc]
theorem blocked_any (x : En) (a : Nat → Int) (now : Int) (hx : x.OK) (ha : BY a) (hn : 0 ≤ now ∧ now ≤ 105190559) (w : World) :
    Calls Tryz.prog 77 #[enV x, .agg (arrI .u8 a 16 0).toArray, .int .i64 now] w fun e w' => e = .returned (.bool (blk x (auI a) now)) ∧ K0 w w' := by
  refine vc_blocked x.s.id x.s.mo x.s.g x.s.tx x.s.r x.s.st x.s.de x.s.rs x.le x.ho x.si a now w _ (fun n n1 W hW => ?_)
  have kW : K0 w W := hW.kk rfl
  refine ⟨(inEff_any x now hx.si hn W).mono fun e w1 ⟨he, k1⟩ => ⟨_, he, .of_k0 k1, x.ho, gimp_intro fun _ => AtL_block (k1.blk (hW.cells 1 rfl) (fun h => h)) rfl, _, gimp_intro fun _ => auEq hx.ho ha, ?_, kW.trans k1⟩⟩
  rfl

end Go.Proofs.YtfacflbmlfbeeaaGreatDoor

/- The formulas of functions by the symbolic evaluator, and that each gives the call's contract. Written by a program (gen.py). No condition. -/
namespace Go.Proofs.YtfacflbmlfbeeaaGreatDoor
set_option maxRecDepth 100000
set_option linter.unusedVariables false

def VC_list_ (b : Nat) (s : ByteArray) (st : Int) (w : World) (R : Ending → World → Prop) : Prop :=
 ∀ (n n_1 : Nat) (W : World),
 Loc w.heap.size [Blk.mk n_1 3 [Value.int IntKind.i64 st] 2, Blk.mk n 9 [Value.string s] 2] w W →
 CallsS Tryz.prog 65
 #[Value.pointer (some (Addr.mk b 0 none)),
 Value.func (Fn.func 66) #[] #[Value.pointer (some (Addr.mk n 0 none)), Value.pointer (some (Addr.mk n_1 0 none))]]
 W fun (e : Ending) (w' : World) =>
 ∃ (p : Option Addr),
 ∃ (n : Nat),
 ∃ (c : Nat),
 e = Ending.returned (Value.slice p n c) ∧
 KeptL [] W w' ∧
 CallsS Tryz.prog 67 #[Value.slice p n c, Value.func (Fn.func 68) #[] #[]] w' fun (e : Ending) (w'_1 : World) =>
 e = Ending.returned (Value.tuple #[]) ∧ KeptL [] w' w'_1 ∧ R (Ending.returned (Value.slice p n c)) w'_1
theorem vc_list_ (b : Nat) (s : ByteArray) (st : Int) (w : World) (R : Ending → World → Prop) (h : VC_list_ b s st w R) : Calls Tryz.prog 32 ([Value.pointer
    (some { block := b, off := 0 }),
  Value.string s, Value.int IntKind.i64 st] : List Value).toArray w R := by
  have e : execR2 { P := Tryz.prog, loops := [], pur := pur1, tails := [], joins := [], boxes := [] } Tryz.f32.results.toList R (Tryz.f32.body.getD .skip) (initF [Value.pointer
    (some { block := b, off := 0 }),
  Value.string s,
  Value.int IntKind.i64
    st] (Tryz.f32.ntmps - ([Value.pointer (some { block := b, off := 0 }), Value.string s,
  Value.int IntKind.i64 st] : List Value).length)) w = VC_list_ b s st w R := by kernel_rfl
  have hb : Tryz.f32.body = some (Tryz.f32.body.getD .skip) := by kernel_rfl
  exact calls_of_exec2' (P := Tryz.prog) (fn := Tryz.f32) (c := Tryz.f32.body.getD .skip) (args := [Value.pointer
    (some { block := b, off := 0 }),
  Value.string s, Value.int IntKind.i64 st]) (w := w) (R := R) pur1_ok Tryz.func32 hb e h

def VC_count_ (b : Nat) (s : ByteArray) (st : Int) (w : World) (R : Ending → World → Prop) : Prop :=
 CallsS Tryz.prog 32 #[Value.pointer (some (Addr.mk b 0 none)), Value.string s, Value.int IntKind.i64 st] w
 fun (e : Ending) (w' : World) =>
 ∃ (p : Option Addr),
 ∃ (n : Nat),
 ∃ (c : Nat),
 e = Ending.returned (Value.slice p n c) ∧ KeptL [] w w' ∧ R (Ending.returned (Value.int IntKind.i64 (↑n : Int))) w'
theorem vc_count_ (b : Nat) (s : ByteArray) (st : Int) (w : World) (R : Ending → World → Prop) (h : VC_count_ b s st w R) : Calls Tryz.prog 15 ([Value.pointer
    (some { block := b, off := 0 }),
  Value.string s, Value.int IntKind.i64 st] : List Value).toArray w R := by
  have e : execR2 { P := Tryz.prog, loops := [], pur := pur1, tails := [], joins := [], boxes := [] } Tryz.f15.results.toList R (Tryz.f15.body.getD .skip) (initF [Value.pointer
    (some { block := b, off := 0 }),
  Value.string s,
  Value.int IntKind.i64
    st] (Tryz.f15.ntmps - ([Value.pointer (some { block := b, off := 0 }), Value.string s,
  Value.int IntKind.i64 st] : List Value).length)) w = VC_count_ b s st w R := by kernel_rfl
  have hb : Tryz.f15.body = some (Tryz.f15.body.getD .skip) := by kernel_rfl
  exact calls_of_exec2' (P := Tryz.prog) (fn := Tryz.f15) (c := Tryz.f15.body.getD .skip) (args := [Value.pointer
    (some { block := b, off := 0 }),
  Value.string s, Value.int IntKind.i64 st]) (w := w) (R := R) pur1_ok Tryz.func15 hb e h

def VC_setMods (b : Nat) (s : ByteArray) (p : Option Addr) (n : Nat) (c : Nat) (w : World) (R : Ending → World → Prop) : Prop :=
 CallsS Tryz.prog 49 #[Value.string s] w fun (e : Ending) (w' : World) =>
 ∃ (x : Int),
 e = Ending.returned (Value.int IntKind.i64 x) ∧
 KeptL [] w w' ∧
 bsp (x != 0) (R (Ending.returned (Value.int IntKind.i64 x)) w')
 (bsp (decide ((↑n : Int) > 8)) (R (Ending.returned (Value.int IntKind.i64 9)) w')
 (CallsS Tryz.prog 72 #[Value.slice p n c] w' fun (e : Ending) (w'_1 : World) =>
 ∃ (x : Value),
 e = Ending.returned x ∧
 KeptL [] w' w'_1 ∧
 CallsS Tryz.prog 71 #[x, Value.func (Fn.func 73) #[] #[]] w'_1 fun (e : Ending) (w' : World) =>
 ∃ (p : Option Addr),
 ∃ (n_1 : Nat),
 ∃ (c : Nat),
 e = Ending.returned (Value.slice p n_1 c) ∧
 KeptL [] w'_1 w' ∧
 CallsS Tryz.prog 47 #[Value.slice p n_1 c] w' fun (e : Ending) (w'_2 : World) =>
 ∃ (p_1 : Option Addr),
 ∃ (n_2 : Nat),
 ∃ (c_1 : Nat),
 e = Ending.returned (Value.slice p_1 n_2 c_1) ∧
 KeptL [] w' w'_2 ∧
 CallsS Tryz.prog 74 #[Value.slice p_1 n_2 c_1] w'_2 fun (e : Ending) (w' : World) =>
 ∃ (p_2 : Option Addr),
 ∃ (n_3 : Nat),
 ∃ (c_2 : Nat),
 e = Ending.returned (Value.slice p_2 n_3 c_2) ∧
 KeptL [] w'_2 w' ∧
 bsp (decide ((↑n_3 : Int) < (↑n : Int))) (R (Ending.returned (Value.int IntKind.i64 7)) w')
 (bsp ((↑n_1 : Int) == 0)
 (∃ (x : Option Nat),
 w'.cell? (Addr.mk b (0 + 3) none) = some (Value.map x) ∧
 ∃ (w1 : World),
 BltP Tryz.prog Builtin.delete [95, 9] [Value.map x, Value.string s] w' w1 ∧
 KeptL [] w' w1 ∧ R (Ending.returned (Value.int IntKind.i64 0)) w1)
 (∃ (x : Option Nat),
 w'.cell? (Addr.mk b (0 + 3) none) = some (Value.map x) ∧
 bsp x.isNone
 (∀ (n : Nat) (w1 : World),
 NewB w' (Obj.map #[] 0) n w1 →
 KeptL [] w' w1 ∧
 ((∃ (u : Value), w1.cell? (Addr.mk b (0 + 3) none) = some u) ∧
 w1.frozen? (Addr.mk b (0 + 3) none) = false) ∧
 ∀ (w1_1 : World),
 PutB w1 b (0 + 3) [Value.map (some n)] w1_1 →
 KeptL [] w1 w1_1 ∧
 ∃ (x : Option Nat),
 w1_1.cell? (Addr.mk b (0 + 3) none) = some (Value.map x) ∧
 ∃ (w1 : World),
 UpdP Tryz.prog 95 (Value.map x) (Value.string s) (Value.slice p n_1 c) w1_1
 w1 ∧
 KeptL [] w1_1 w1 ∧ R (Ending.returned (Value.int IntKind.i64 0)) w1)
 (∃ (x : Option Nat),
 w'.cell? (Addr.mk b (0 + 3) none) = some (Value.map x) ∧
 ∃ (w1 : World),
 UpdP Tryz.prog 95 (Value.map x) (Value.string s) (Value.slice p n_1 c) w' w1 ∧
 KeptL [] w' w1 ∧ R (Ending.returned (Value.int IntKind.i64 0)) w1)))))
theorem vc_setMods (b : Nat) (s : ByteArray) (p : Option Addr) (n : Nat) (c : Nat) (w : World) (R : Ending → World → Prop) (h : VC_setMods b s p n c w R) : Calls Tryz.prog 38 ([Value.pointer
    (some { block := b, off := 0 }),
  Value.string s, Value.slice p n c] : List Value).toArray w R := by
  have e : execR2 { P := Tryz.prog, loops := [], pur := pur1, tails := [], joins := [], boxes := [] } Tryz.f38.results.toList R (Tryz.f38.body.getD .skip) (initF [Value.pointer
    (some { block := b, off := 0 }),
  Value.string s,
  Value.slice p n
    c] (Tryz.f38.ntmps - ([Value.pointer (some { block := b, off := 0 }), Value.string s,
  Value.slice p n c] : List Value).length)) w = VC_setMods b s p n c w R := by kernel_rfl
  have hb : Tryz.f38.body = some (Tryz.f38.body.getD .skip) := by kernel_rfl
  exact calls_of_exec2' (P := Tryz.prog) (fn := Tryz.f38) (c := Tryz.f38.body.getD .skip) (args := [Value.pointer
    (some { block := b, off := 0 }),
  Value.string s, Value.slice p n c]) (w := w) (R := R) pur1_ok Tryz.func38 hb e h

end Go.Proofs.YtfacflbmlfbeeaaGreatDoor

/- The formulas of functions by the symbolic evaluator, and that each gives the call's contract. Written by a program (gen.py). No condition. -/
namespace Go.Proofs.YtfacflbmlfbeeaaGreatDoor
set_option maxRecDepth 100000
set_option linter.unusedVariables false

def VC_lisC (id : Nat → Int) (mo : Nat → Int) (g : ByteArray) (t : ByteArray) (r : Int) (st : Int) (de : Int) (rs : ByteArray) (le : Bool) (ho : Nat → Int) (si : Int) (b1 : Nat) (b2 : Nat) (w : World) (R : Ending → World → Prop) : Prop :=
 ∀ (n : Nat),
 ∃ (x : ByteArray),
 (∀ (W : World),
 Loc w.heap.size
 [Blk.mk n 107
 (arrI IntKind.u8 id 32 0 ++ ([Value.string g, Value.string t,
 Value.int IntKind.i64 r, Value.int IntKind.i64 st] ++ arrI IntKind.u8 mo 16 0 ++ ([Value.int IntKind.i64 de, Value.string rs,
 Value.bool le] ++ arrI IntKind.u8 ho 16 0 ++ [Value.int IntKind.i64 si])))
 2]
 w W →
 W.cell? (Addr.mk b1 0 none) = some (Value.string x)) ∧
 ∃ (x_1 : ByteArray),
 gimp (!x.toList == [])
 (∀ (W : World),
 Loc w.heap.size
 [Blk.mk n 107
 (arrI IntKind.u8 id 32 0 ++ ([Value.string g, Value.string t,
 Value.int IntKind.i64 r, Value.int IntKind.i64 st] ++ arrI IntKind.u8 mo 16 0 ++ ([Value.int IntKind.i64 de, Value.string rs,
 Value.bool le] ++ arrI IntKind.u8 ho 16 0 ++ [Value.int IntKind.i64 si])))
 2]
 w W →
 W.cell? (Addr.mk n (0 + 32) none) = some (Value.string x_1)) ∧
 ∃ (x_2 : ByteArray),
 gimp (!x.toList == [])
 (∀ (W : World),
 Loc w.heap.size
 [Blk.mk n 107
 (arrI IntKind.u8 id 32 0 ++ ([Value.string g, Value.string t,
 Value.int IntKind.i64 r, Value.int IntKind.i64 st] ++ arrI IntKind.u8 mo 16 0 ++ ([Value.int IntKind.i64 de, Value.string rs, Value.bool le] ++ arrI IntKind.u8 ho 16 0 ++ [Value.int IntKind.i64 si])))
 2]
 w W →
 W.cell? (Addr.mk b1 0 none) = some (Value.string x_2)) ∧
 ∃ (x_3 : Int),
 gimp (x.toList == [] || x_1.toList == x_2.toList)
 (∀ (W : World),
 Loc w.heap.size
 [Blk.mk n 107
 (arrI IntKind.u8 id 32 0 ++ ([Value.string g, Value.string t,
 Value.int IntKind.i64 r, Value.int IntKind.i64 st] ++ arrI IntKind.u8 mo 16 0 ++ ([Value.int IntKind.i64 de, Value.string rs, Value.bool le] ++ arrI IntKind.u8 ho 16 0 ++ [Value.int IntKind.i64 si])))
 2]
 w W →
 W.cell? (Addr.mk n (0 + 35) none) = some (Value.int IntKind.i64 x_3)) ∧
 ∃ (x_4 : Int),
 gimp (x.toList == [] || x_1.toList == x_2.toList)
 (∀ (W : World),
 Loc w.heap.size
 [Blk.mk n 107
 (arrI IntKind.u8 id 32 0 ++ ([Value.string g, Value.string t,
 Value.int IntKind.i64 r, Value.int IntKind.i64 st] ++ arrI IntKind.u8 mo 16 0 ++ ([Value.int IntKind.i64 de, Value.string rs, Value.bool le] ++ arrI IntKind.u8 ho 16 0 ++ [Value.int IntKind.i64 si])))
 2]
 w W →
 W.cell? (Addr.mk b2 0 none) = some (Value.int IntKind.i64 x_4)) ∧
 ∀ (W : World),
 Loc w.heap.size
 [Blk.mk n 107
 (arrI IntKind.u8 id 32 0 ++ ([Value.string g, Value.string t,
 Value.int IntKind.i64 r, Value.int IntKind.i64 st] ++ arrI IntKind.u8 mo 16 0 ++ ([Value.int IntKind.i64 de, Value.string rs, Value.bool le] ++ arrI IntKind.u8 ho 16 0 ++ [Value.int IntKind.i64 si])))
 2]
 w W →
 R (Ending.returned (Value.bool ((x.toList == [] || x_1.toList == x_2.toList) && x_3 == x_4))) W
theorem vc_lisC (id : Nat → Int) (mo : Nat → Int) (g : ByteArray) (t : ByteArray) (r : Int) (st : Int) (de : Int) (rs : ByteArray) (le : Bool) (ho : Nat → Int) (si : Int) (b1 : Nat) (b2 : Nat) (w : World) (R : Ending → World → Prop) (h : VC_lisC id mo g t r st de rs le ho si b1 b2 w R) : Calls Tryz.prog 66 ([Value.agg
    (arrI IntKind.u8 id 32 0 ++
        ([Value.string g, Value.string t, Value.int IntKind.i64 r, Value.int IntKind.i64 st] ++
          (arrI IntKind.u8 mo 16 0 ++
            ([Value.int IntKind.i64 de, Value.string rs, Value.bool le] ++
              (arrI IntKind.u8 ho 16 0 ++ [Value.int IntKind.i64 si]))))).toArray,
  Value.pointer (some { block := b1, off := 0 }),
  Value.pointer (some { block := b2, off := 0 })] : List Value).toArray w R := by
  have e : execR2 { P := Tryz.prog, loops := [], pur := pur1, tails := [], joins := [], boxes := [] } Tryz.f66.results.toList R (Tryz.f66.body.getD .skip) (initF [Value.agg
    (arrI IntKind.u8 id 32 0 ++
        ([Value.string g, Value.string t, Value.int IntKind.i64 r, Value.int IntKind.i64 st] ++
          (arrI IntKind.u8 mo 16 0 ++
            ([Value.int IntKind.i64 de, Value.string rs, Value.bool le] ++
              (arrI IntKind.u8 ho 16 0 ++ [Value.int IntKind.i64 si]))))).toArray,
  Value.pointer (some { block := b1, off := 0 }),
  Value.pointer
    (some
      { block := b2,
        off :=
          0 })] (Tryz.f66.ntmps - ([Value.agg
    (arrI IntKind.u8 id 32 0 ++
        ([Value.string g, Value.string t, Value.int IntKind.i64 r, Value.int IntKind.i64 st] ++
          (arrI IntKind.u8 mo 16 0 ++
            ([Value.int IntKind.i64 de, Value.string rs, Value.bool le] ++
              (arrI IntKind.u8 ho 16 0 ++ [Value.int IntKind.i64 si]))))).toArray,
  Value.pointer (some { block := b1, off := 0 }),
  Value.pointer
    (some
      { block := b2,
        off := 0 })] : List Value).length)) w = VC_lisC id mo g t r st de rs le ho si b1 b2 w R := by kernel_rfl
  have hb : Tryz.f66.body = some (Tryz.f66.body.getD .skip) := by kernel_rfl
  exact calls_of_exec2' (P := Tryz.prog) (fn := Tryz.f66) (c := Tryz.f66.body.getD .skip) (args := [Value.agg
    (arrI IntKind.u8 id 32 0 ++
        ([Value.string g, Value.string t, Value.int IntKind.i64 r, Value.int IntKind.i64 st] ++
          (arrI IntKind.u8 mo 16 0 ++
            ([Value.int IntKind.i64 de, Value.string rs, Value.bool le] ++
              (arrI IntKind.u8 ho 16 0 ++ [Value.int IntKind.i64 si]))))).toArray,
  Value.pointer (some { block := b1, off := 0 }),
  Value.pointer (some { block := b2, off := 0 })]) (w := w) (R := R) pur1_ok Tryz.func66 hb e h

def VC_clmC (id : Nat → Int) (mo : Nat → Int) (g : ByteArray) (t : ByteArray) (r : Int) (st : Int) (de : Int) (rs : ByteArray) (le : Bool) (ho : Nat → Int) (si : Int) (b1 : Nat) (b2 : Nat) (b3 : Nat) (w : World) (R : Ending → World → Prop) : Prop :=
 ∀ (n : Nat),
 ∃ (x : ByteArray),
 (∀ (W : World),
 Loc w.heap.size
 [Blk.mk n 107
 (arrI IntKind.u8 id 32 0 ++ ([Value.string g, Value.string t,
 Value.int IntKind.i64 r, Value.int IntKind.i64 st] ++ arrI IntKind.u8 mo 16 0 ++ ([Value.int IntKind.i64 de, Value.string rs,
 Value.bool le] ++ arrI IntKind.u8 ho 16 0 ++ [Value.int IntKind.i64 si])))
 2]
 w W →
 W.cell? (Addr.mk b1 0 none) = some (Value.string x)) ∧
 ∃ (x_1 : Int),
 gimp (g.toList == x.toList)
 (∀ (W : World),
 Loc w.heap.size
 [Blk.mk n 107
 (arrI IntKind.u8 id 32 0 ++ ([Value.string g, Value.string t,
 Value.int IntKind.i64 r, Value.int IntKind.i64 st] ++ arrI IntKind.u8 mo 16 0 ++ ([Value.int IntKind.i64 de, Value.string rs,
 Value.bool le] ++ arrI IntKind.u8 ho 16 0 ++ [Value.int IntKind.i64 si])))
 2]
 w W →
 W.cell? (Addr.mk n (0 + 35) none) = some (Value.int IntKind.i64 x_1)) ∧
 ∃ (f : Nat → Int),
 gimp (g.toList == x.toList && x_1 == 0)
 (∀ (W : World),
 Loc w.heap.size
 [Blk.mk n 107
 (arrI IntKind.u8 id 32 0 ++ ([Value.string g, Value.string t,
 Value.int IntKind.i64 r, Value.int IntKind.i64 st] ++ arrI IntKind.u8 mo 16 0 ++ ([Value.int IntKind.i64 de, Value.string rs, Value.bool le] ++ arrI IntKind.u8 ho 16 0 ++ [Value.int IntKind.i64 si])))
 2]
 w W →
 AtL W b2 0
 (arrI IntKind.u8 f 16 0)) ∧
 ∃ (x_2 : Int),
 gimp (g.toList == x.toList && x_1 == 0)
 (∀ (W : World),
 Loc w.heap.size
 [Blk.mk n 107
 (arrI IntKind.u8 id 32 0 ++ ([Value.string g, Value.string t,
 Value.int IntKind.i64 r, Value.int IntKind.i64 st] ++ arrI IntKind.u8 mo 16 0 ++ ([Value.int IntKind.i64 de, Value.string rs, Value.bool le] ++ arrI IntKind.u8 ho 16 0 ++ [Value.int IntKind.i64 si])))
 2]
 w W →
 W.cell? (Addr.mk b3 0 none) = some (Value.int IntKind.i64 x_2)) ∧
 ∀ (W : World),
 Loc w.heap.size
 [Blk.mk n 107
 (arrI IntKind.u8 id 32 0 ++ ([Value.string g, Value.string t,
 Value.int IntKind.i64 r, Value.int IntKind.i64 st] ++ arrI IntKind.u8 mo 16 0 ++ ([Value.int IntKind.i64 de, Value.string rs, Value.bool le] ++ arrI IntKind.u8 ho 16 0 ++ [Value.int IntKind.i64 si])))
 2]
 w W →
 bsp (g.toList == x.toList && x_1 == 0)
 (CallsS Tryz.prog 77
 #[Value.agg
 (arrI IntKind.u8 id 32 0 ++ ([Value.string g, Value.string t,
 Value.int IntKind.i64 r, Value.int IntKind.i64 st] ++ arrI IntKind.u8 mo 16 0 ++ ([Value.int IntKind.i64 de, Value.string rs, Value.bool le] ++ arrI IntKind.u8 ho 16 0 ++ [Value.int IntKind.i64 si]))).toArray,
 Value.agg
 (arrI IntKind.u8 f 16 0).toArray,
 Value.int IntKind.i64 x_2]
 W fun (e : Ending) (w' : World) =>
 ∃ (x : Bool),
 e = Ending.returned (Value.bool x) ∧ KeptL [n] W w' ∧ R (Ending.returned (Value.bool (true && !x))) w')
 (KeptL [n] W W ∧ R (Ending.returned (Value.bool false)) W)
theorem vc_clmC (id : Nat → Int) (mo : Nat → Int) (g : ByteArray) (t : ByteArray) (r : Int) (st : Int) (de : Int) (rs : ByteArray) (le : Bool) (ho : Nat → Int) (si : Int) (b1 : Nat) (b2 : Nat) (b3 : Nat) (w : World) (R : Ending → World → Prop) (h : VC_clmC id mo g t r st de rs le ho si b1 b2 b3 w R) : Calls Tryz.prog 76 ([Value.agg
    (arrI IntKind.u8 id 32 0 ++
        ([Value.string g, Value.string t, Value.int IntKind.i64 r, Value.int IntKind.i64 st] ++
          (arrI IntKind.u8 mo 16 0 ++
            ([Value.int IntKind.i64 de, Value.string rs, Value.bool le] ++
              (arrI IntKind.u8 ho 16 0 ++ [Value.int IntKind.i64 si]))))).toArray,
  Value.pointer (some { block := b1, off := 0 }), Value.pointer (some { block := b2, off := 0 }),
  Value.pointer (some { block := b3, off := 0 })] : List Value).toArray w R := by
  have e : execR2 { P := Tryz.prog, loops := [], pur := pur1, tails := [], joins := [], boxes := [] } Tryz.f76.results.toList R (Tryz.f76.body.getD .skip) (initF [Value.agg
    (arrI IntKind.u8 id 32 0 ++
        ([Value.string g, Value.string t, Value.int IntKind.i64 r, Value.int IntKind.i64 st] ++
          (arrI IntKind.u8 mo 16 0 ++
            ([Value.int IntKind.i64 de, Value.string rs, Value.bool le] ++
              (arrI IntKind.u8 ho 16 0 ++ [Value.int IntKind.i64 si]))))).toArray,
  Value.pointer (some { block := b1, off := 0 }), Value.pointer (some { block := b2, off := 0 }),
  Value.pointer
    (some
      { block := b3,
        off :=
          0 })] (Tryz.f76.ntmps - ([Value.agg
    (arrI IntKind.u8 id 32 0 ++
        ([Value.string g, Value.string t, Value.int IntKind.i64 r, Value.int IntKind.i64 st] ++
          (arrI IntKind.u8 mo 16 0 ++
            ([Value.int IntKind.i64 de, Value.string rs, Value.bool le] ++
              (arrI IntKind.u8 ho 16 0 ++ [Value.int IntKind.i64 si]))))).toArray,
  Value.pointer (some { block := b1, off := 0 }), Value.pointer (some { block := b2, off := 0 }),
  Value.pointer
    (some
      { block := b3,
        off := 0 })] : List Value).length)) w = VC_clmC id mo g t r st de rs le ho si b1 b2 b3 w R := by kernel_rfl
  have hb : Tryz.f76.body = some (Tryz.f76.body.getD .skip) := by kernel_rfl
  exact calls_of_exec2' (P := Tryz.prog) (fn := Tryz.f76) (c := Tryz.f76.body.getD .skip) (args := [Value.agg
    (arrI IntKind.u8 id 32 0 ++
        ([Value.string g, Value.string t, Value.int IntKind.i64 r, Value.int IntKind.i64 st] ++
          (arrI IntKind.u8 mo 16 0 ++
            ([Value.int IntKind.i64 de, Value.string rs, Value.bool le] ++
              (arrI IntKind.u8 ho 16 0 ++ [Value.int IntKind.i64 si]))))).toArray,
  Value.pointer (some { block := b1, off := 0 }), Value.pointer (some { block := b2, off := 0 }),
  Value.pointer (some { block := b3, off := 0 })]) (w := w) (R := R) pur1_ok Tryz.func76 hb e h

end Go.Proofs.YtfacflbmlfbeeaaGreatDoor

/- Chapter 39: the contracts of selected and of its predicates, of List, Count, MinFunc. The library's variable MaxLen holds a number. -/
namespace Go.Proofs.YtfacflbmlfbeeaaGreatDoor
open Go.RowKit Go.Sort Go.Maps

/-- The submissions of the entries for which P holds. -/
def selE (P : En → Bool) (es : List (Ky × En)) : List Sb := (es.filter fun p => P p.2).map (·.2.s)
theorem erase_perm39 {α : Type} : ∀ (l : List α) (j : Nat) (x : α), l[j]? = some x → l.Perm (x :: l.eraseIdx j)
  | [], j, x, h => by simp at h
  | y :: l, 0, x, h => by
    have : y = x := by simpa using h
    subst this
    exact .refl _
  | y :: l, j + 1, x, h => by
    have ih := erase_perm39 l j x (by simpa using h)
    exact (ih.cons y).trans (.swap x y _)
theorem selE_perm {P : En → Bool} {l : List (Ky × En)} {j : Nat} {x : Ky × En} (h : l[j]? = some x) : (selE P l).Perm ((if P x.2 = true then [x.2.s] else []) ++ selE P (l.eraseIdx j)) := by
  have h1 := (erase_perm39 l j x h)
  have h2 : (selE P l).Perm (selE P (x :: l.eraseIdx j)) := ((h1.filter _).map _)
  refine h2.trans ?_
  unfold selE
  rw [List.filter_cons]
  split
  · exact .refl _
  · exact .refl _
theorem selE_le (P : En → Bool) (l : List (Ky × En)) : (selE P l).length ≤ l.length := by unfold selE; rw [List.length_map]; exact List.length_filter_le _ _
set_option maxHeartbeats 1000000 in
theorem selected_any {w : World} {b mb eb : Nat} {q : Qu} (h : Mq w b mb eb q) (hes : ∀ k x, (k, x) ∈ q.es → x.OK ∧ k = x.s.ky) (hln : q.es.length ≤ 1000000) (f : FuncId) (fa fb : Array Value) (P : En → Bool) (hok : okFn Tryz.prog f = true)
    (hF : ∀ x : En, x.OK → ∀ w1, K0 w w1 → Calls Tryz.prog f (appA fa [enV x] fb) w1 fun e w2 => e = .returned (.bool (P x)) ∧ K0 w1 w2) :
    Calls Tryz.prog 65 #[.pointer (some ⟨b, 0, none⟩), .func (.func f) fa fb] w fun e w' => (∃ (p : Option Addr) (c : Nat) (l : List Sb), e = .returned (.slice p l.length c) ∧ l.Perm (selE P q.es) ∧
      w'.ownsRow w.heap.size 48 54 (.slice p l.length c) l.length (l.flatMap sbC)) ∧ K0 w w' := by
  have hmw := h.me.lt
  obtain ⟨r, w1, hrun, hR, k1, gr, rlt⟩ := h.me.range (t := 96) Tryz.underlying96
  refine vc_selected b f fa fb w _ ⟨some eb, h.cE, r, w1, hrun, .of_k0 k1, ?_⟩
  refine ⟨fun vs w' => ∃ (l : List Sb) (todo : List (Ky × En)) (p : Option Addr) (c : Nat), vs = [.slice p l.length c] ∧ RngB kyV w' r eb (amap enV todo) ∧ todo.Sublist q.es ∧ l.length + todo.length ≤ q.es.length ∧ (l ++ selE P todo).Perm (selE P q.es) ∧
      w'.ownsRow w1.heap.size 48 54 (.slice p l.length c) l.length (l.flatMap sbC) ∧ Kp (· = r) w1 w',
    fun _ w' => leftN w' r eb, ⟨[], q.es, none, 0, rfl, hR, List.Sublist.refl _, by simp, .refl _, World.ownsRow_nil _ _ _ _, .refl _ _⟩, ?_⟩
  rintro p0 n0 c0 w2 ⟨l, todo, p, c, hv, hR2, hsub, hlen, hperm, ho2, k2⟩
  simp only [List.cons.injEq, Value.slice.injEq, and_true] at hv
  obtain ⟨rfl, rfl, rfl⟩ := hv
  have hrm : ¬ eb = r := by omega
  have kw2 : K0 w w2 := k1.fresh k2 (fun j hj e => by omega)
  rcases hR2.next (P := Tryz.prog) with ⟨hnil, hnx⟩ | ⟨j, y, w3, hj, hnx, hent, hR3, k3⟩
  · have htodo : todo = [] := by
      cases todo with
      | nil => rfl
      | cons x t => simp [amap] at hnil
    subst htodo
    refine ⟨false, [], w2, hnx, .refl _ _, bsp_intro (fun h => by cases h) (fun _ => ⟨⟨p0, c0, l, rfl, ?_, own_base ho2 k1.size⟩, kw2⟩)⟩
    simpa [selE] using hperm
  · have hj' : ((todo.map fun p => (p.1, enV p.2)))[j]? = some y := hj
    rw [List.getElem?_map, Option.map_eq_some_iff] at hj'
    obtain ⟨y, hyj, rfl⟩ := hj'
    have hmem : y ∈ q.es := hsub.subset (List.mem_of_getElem? hyj)
    obtain ⟨hyo, hyk⟩ := hes y.1 y.2 hmem
    have her : (amap enV todo).eraseIdx j = amap enV (todo.eraseIdx j) := by unfold amap; rw [map_erase']
    rw [her] at hR3
    have hjl := (List.getElem?_eq_some_iff.1 hyj).1
    have helen : (todo.eraseIdx j).length = todo.length - 1 := List.length_eraseIdx_of_lt hjl
    have hpm := selE_perm (P := P) hyj
    have hl2 := hR2.left
    have hlam : (amap enV todo).length = todo.length := by simp [amap]
    have hlam3 : (amap enV (todo.eraseIdx j)).length = todo.length - 1 := by simp [amap, helen]
    have hr3 : r < w3.heap.size := by
      have := k2.size; have := k3.size; omega
    have ho3 := owns_kp ho2 k3 (fun k hk e => by have := own_ge ho2 hk; omega)
    have kw3 : K0 w w3 := kw2.fresh k3 (fun j hj e => by omega)
    refine ⟨true, _, w3, hnx, .of_kp k3 (fun y hy e => by cases hy), bsp_intro (fun _ => ?_) (fun h => by cases h)⟩
    refine ⟨y.2.s.id, y.2.s.g, y.2.s.id, y.2.s.g, y.2.s.tx, y.2.s.r, y.2.s.st, y.2.s.mo, y.2.s.de, y.2.s.rs, y.2.le, y.2.ho, y.2.si, ?_, fun n4 W hW => ?_⟩
    · have hk : kyV y.1 = .agg (arrI .u8 y.2.s.id 32 0 ++ ([.string y.2.s.g] : List Value)).toArray := by rw [hyk]; rfl
      rw [← hk]; exact hent
    have kW : K0 w3 W := hW.kk rfl
    refine ⟨f, fa, fb, rfl, hok, ⟨(hF y.2 hyo W (kw3.trans kW)).mono fun e w4 ⟨he, k4⟩ => ⟨_, he, .of_k0 k4, bsp_intro (fun hd => fun n5 W5 hW5 => ?_) (fun hd => ?_)⟩⟩⟩
    · have k5 : K0 w4 W5 := hW5.kk rfl
      have k35 : K0 w3 W5 := (kW.trans k4).trans k5
      have ho5 := owns_kp ho3 k35 (fun _ _ h => h)
      have e1 : l.length + 1 = (l ++ [y.2.s]).length := by simp
      have e2 : (l ++ [y.2.s]).flatMap sbC = l.flatMap sbC ++ sbC y.2.s := by rw [List.flatMap_append]; simp [List.flatMap_cons]
      have c1' := hW5.cells 1 rfl
      refine ⟨w1.heap.size, l.flatMap sbC, ho5, by omega, by omega, Nat.le_trans k2.size (Nat.le_trans k3.size k35.size), fun p' c' w6 ho6 hg6 _ => ⟨?_, ⟨l ++ [y.2.s], todo.eraseIdx j, p', c', by rw [← e1], ?_, ((List.eraseIdx_sublist _ _).trans hsub), by rw [← e1, helen]; omega, ?_, by rw [← e1, e2]; exact ho6, ?_⟩, ?_⟩⟩
      · refine .of_kp (kp_grown hg6) (fun z hz => ?_)
        simp only [List.mem_cons, List.not_mem_nil, or_false] at hz
        subst hz
        exact own_not ho5 c1' rfl
      · refine (hR3.kp k35 (fun h => h) (fun h => h)).kp (kp_grown hg6) (fun e => ?_) (fun e => ?_)
        · have := own_ge ho5 e; omega
        · have := own_ge ho5 e; omega
      · refine List.Perm.trans ?_ hperm
        rw [List.append_assoc]
        refine List.Perm.append_left _ ?_
        rw [if_pos hd] at hpm
        exact hpm.symm
      · exact ((k2.trans k3).trans (k35.mono fun _ _ h => h.elim)).fresh (kp_grown hg6) (fun i hi e => by have := own_ge ho5 e; omega)
      · have hg := (kp_grown hg6)
        have hR6 := (hR3.kp k35 (fun h => h) (fun h => h)).kp hg (fun e => by have := own_ge ho5 e; omega) (fun e => by have := own_ge ho5 e; omega)
        show leftN w6 r eb < leftN w2 r eb
        rw [hR6.left, hl2]; omega
    · have k34 : K0 w3 w4 := kW.trans k4
      have hR4 := hR3.kp k34 (fun h => h) (fun h => h)
      refine ⟨⟨l, todo.eraseIdx j, p0, c0, rfl, hR4, ((List.eraseIdx_sublist _ _).trans hsub), by rw [helen]; omega, ?_, owns_kp ho3 k34 (fun _ _ h => h), (k2.trans k3).trans (k34.mono fun _ _ h => h.elim)⟩, by show leftN w4 r eb < leftN w2 r eb; rw [hR4.left, hl2]; omega⟩
      refine List.Perm.trans ?_ hperm
      refine List.Perm.append_left _ ?_
      have hd' : ¬ P y.2 = true := by rw [hd]; decide
      rw [if_neg hd'] at hpm
      exact hpm.symm

/-! ### List, Count -/
def lsP (g : ByteArray) (st : Int) (x : En) : Bool := (decide (g = ⟨#[]⟩) || decide (x.s.g = g)) && x.s.st == st
theorem str_nil (g : ByteArray) : (g.toList == []) = decide (g = ⟨#[]⟩) := by rw [← str_beq]; rw [ByteArray.toList_eq ⟨#[]⟩]
theorem lisC_any (x : En) (g : ByteArray) (st : Int) (b1 b2 : Nat) (w : World) (h1 : w.cell? ⟨b1, 0, none⟩ = some (.string g)) (h2 : w.cell? ⟨b2, 0, none⟩ = some (.int .i64 st)) :
    Calls Tryz.prog 66 #[enV x, .pointer (some ⟨b1, 0, none⟩), .pointer (some ⟨b2, 0, none⟩)] w fun e w' => e = .returned (.bool (lsP g st x)) ∧ K0 w w' := by
  refine vc_lisC x.s.id x.s.mo x.s.g x.s.tx x.s.r x.s.st x.s.de x.s.rs x.le x.ho x.si b1 b2 w _ (fun n => ⟨g, fun W hW => (hW.kk rfl : K0 w W).cell' h1 (fun h => h), x.s.g, gimp_intro fun _ W hW => cell_at (hW.cells 0 rfl) rfl, g, gimp_intro fun _ W hW => (hW.kk rfl : K0 w W).cell' h1 (fun h => h), x.s.st, gimp_intro fun _ W hW => cell_at (hW.cells 0 rfl) rfl, st, gimp_intro fun _ W hW => (hW.kk rfl : K0 w W).cell' h2 (fun h => h), fun W hW => ⟨by unfold lsP; rw [str_nil, str_beq], hW.kk rfl⟩⟩)
/-- What is asked of the entries: they are as they should be. -/
theorem Qu.OK.mem {q : Qu} (h : q.OK) (hd : q.es.Pairwise fun p q => p.1 ≠ q.1) : ∀ k x, (k, x) ∈ q.es → x.OK ∧ k = x.s.ky := fun k x hm => by
  have := h.es k x (aget_at hd hm)
  exact ⟨this.1, this.2.1⟩
theorem Mq.dis {w : World} {b mb eb : Nat} {q : Qu} (h : Mq w b mb eb q) : q.es.Pairwise fun p q => p.1 ≠ q.1 := by
  have := h.me.dis
  unfold amap at this
  rw [List.pairwise_map] at this
  exact this
theorem selE_mem {P : En → Bool} {es : List (Ky × En)} {x : Sb} (h : x ∈ selE P es) : ∃ k e, (k, e) ∈ es ∧ P e = true ∧ e.s = x := by
  unfold selE at h
  obtain ⟨p, hp, rfl⟩ := List.mem_map.1 h
  obtain ⟨h1, h2⟩ := List.mem_filter.1 hp
  exact ⟨p.1, p.2, h1, h2, rfl⟩
set_option maxRecDepth 100000 in
theorem list_any {w : World} {b mb eb : Nat} {q : Qu} (h : Mq w b mb eb q) (ho : q.OK) (hln : q.es.length ≤ 1000000) (g : ByteArray) (st : Int) (hG : GW w) :
    Calls Tryz.prog 32 #[.pointer (some ⟨b, 0, none⟩), .string g, .int .i64 st] w fun e w' => (∃ (p : Option Addr) (c : Nat) (l : List Sb), e = .returned (.slice p l.length c) ∧ l.Perm (selE (lsP g st) q.es) ∧ (l.Pairwise fun x y => ¬ cfM y x < 0) ∧
      w'.ownsRow w.heap.size 48 54 (.slice p l.length c) l.length (l.flatMap sbC)) ∧ K0 w w' := by
  refine vc_list_ b g st w _ (fun n n1 W hW => ?_)
  have kW : K0 w W := hW.kk rfl
  have c0 := hW.cells 0 rfl
  have c1 := hW.cells 1 rfl
  have hm := ho.mem h.dis
  have hF : ∀ x : En, x.OK → ∀ w1, K0 W w1 → Calls Tryz.prog 66 (appA #[] [enV x] #[.pointer (some ⟨n, 0, none⟩), .pointer (some ⟨n1, 0, none⟩)]) w1 fun e w2 => e = .returned (.bool (lsP g st x)) ∧ K0 w1 w2 := fun x hx w1 k1 => by
    have h1 := lisC_any x g st n n1 w1 (cell_at (k1.blk c1 (fun h => h)) rfl) (cell_at (k1.blk c0 (fun h => h)) rfl)
    generalize enV x = v at h1 ⊢
    exact h1
  refine ⟨(selected_any (h.k0 kW) hm hln 66 #[] #[.pointer (some ⟨n, 0, none⟩), .pointer (some ⟨n1, 0, none⟩)] (lsP g st) (by kernel_rfl) hF).mono fun e w2 ⟨⟨p, c, l, he, hp, hown⟩, k2⟩ => ⟨_, _, _, he, .of_k0 k2, ?_⟩⟩
  have k02 := kW.trans k2
  have hl : l.length ≤ q.es.length := by rw [hp.length_eq]; exact selE_le _ _
  refine ⟨(msort_any l p c w2 hown (fun x hx => ?_) (by omega) (hG.kp k02 (fun h => h))).mono fun e w3 ⟨he, l', hp', hs, ho', k3⟩ => ⟨he, .of_kp k3 (fun z hz => by cases hz), ⟨p, c, l', by rw [hp'.length_eq], hp'.trans hp, hs, own_base ho' kW.size⟩, k02.fresh k3 (fun i hi e => by have := own_ge hown e; have := kW.size; omega)⟩⟩
  obtain ⟨k, en, h1, _, rfl⟩ := selE_mem (hp.subset hx)
  exact (hm k en h1).1.s.g
theorem count_any {w : World} {b mb eb : Nat} {q : Qu} (h : Mq w b mb eb q) (ho : q.OK) (hln : q.es.length ≤ 1000000) (g : ByteArray) (st : Int) (hG : GW w) :
    Calls Tryz.prog 15 #[.pointer (some ⟨b, 0, none⟩), .string g, .int .i64 st] w fun e w' => e = .returned (.int .i64 ((selE (lsP g st) q.es).length : Nat)) ∧ K0 w w' :=
  vc_count_ b g st w _ ⟨(list_any h ho hln g st hG).mono fun e w2 ⟨⟨p, c, l, he, hp, _⟩, k2⟩ => ⟨_, _, _, he, .of_k0 k2, by rw [hp.length_eq], k2⟩⟩

/-! ### The least -/
set_option maxHeartbeats 1000000 in
theorem minf_any (l : List Sb) (p : Option Addr) (c : Nat) (w : World) (hR : RowA sbC 54 w p l) (h0 : 0 < l.length) (hg : ∀ x ∈ l, x.g.size ≤ 1073741824) (hl : l.length ≤ 1000000) (hG : GW w) :
    Calls Tryz.prog 78 #[.slice p l.length c, .func (.func 68) #[] #[]] w fun e w' => (∃ x, e = .returned (sbV x) ∧ x ∈ l ∧ ∀ y ∈ l, ¬ cfM y x < 0) ∧ K0 w w' := by
  obtain ⟨x0, b0, o0, hx0, hp0, hat0⟩ := hR.get h0
  refine vc_minf p l.length c _ _ _ w _ (fun n1 => bsp_intro (fun h => by exfalso; simp at h; omega) (fun _ => ?_))
  rw [Nat.zero_mul, Nat.add_zero] at hat0
  refine nn_is hp0 ⟨⟨by omega, by omega⟩, x0.id, x0.g, x0.tx, x0.r, x0.st, x0.mo, x0.de, x0.rs, fun W hW => hat0.k0 (hW.kk rfl), fun n2 W hW => ?_⟩
  have kW : K0 w W := hW.kk rfl
  have c0 := hW.cells 0 rfl
  have g2 : w.heap.size ≤ n2 := hW.fresh 0 rfl rfl
  have hap := hW.apart 0 1 rfl rfl (by decide)
  simp only at hap
  refine ⟨fun vs w' => ∃ (i : Nat) (m : Sb), vs = [.int .i64 (i : Int)] ∧ 1 ≤ i ∧ i ≤ l.length ∧ m ∈ l ∧ (∀ y ∈ l.take i, ¬ cfM y m < 0) ∧ w'.heap[n2]? = some (.cells (sbC m).toArray 48 (0, 0)) ∧ K0 w w',
    fun vs _ => (match vs with | .int _ a :: _ => l.length - a.toNat | _ => 0), ⟨1, x0, rfl, by omega, by omega, List.mem_of_getElem? hx0, fun y hy => ?_, c0, kW⟩, ?_⟩
  · have : l.take 1 = [x0] := by
      cases l with
      | nil => cases hx0
      | cons a r => simp at hx0; subst hx0; rfl
    rw [this] at hy
    simp at hy; subst hy
    have := cfM_ord.self y
    omega
  rintro xi w1 ⟨i, m, hv, hi1, hil, hm, hmin, hb2, k1⟩ hL1
  simp only [List.cons.injEq, Value.int.injEq, true_and, and_true] at hv
  subst hv
  refine bsp_intro (fun hlt => ?_) (fun hge => ?_)
  · have hlt : i < l.length := by simp at hlt; omega
    obtain ⟨x, b1, o1, hx, hpp, hat⟩ := (hR.k0 k1).get hlt
    rw [hp0] at hpp
    simp only [Option.some.injEq, Addr.mk.injEq, and_true] at hpp
    obtain ⟨rfl, rfl⟩ := hpp
    rw [Int.toNat_natCast]
    refine nn_is hp0 ⟨⟨by omega, by omega⟩, x.id, x.g, x.tx, x.r, x.st, x.mo, x.de, x.rs, fun W hW => hat.k0 (hW.kk rfl), m.id, m.g, m.tx, m.r, m.st, m.mo, m.de, m.rs, fun W hW => AtL_block ((hW.kk rfl : K0 w1 W).blk hb2 (fun h => h)) rfl, fun W3 hW3 => ⟨_, _, _, rfl, by kernel_rfl, ?_⟩⟩
    have k3 : K0 w1 W3 := hW3.kk rfl
    have inc : IntKind.i64.wrap ((i : Int) + 1) = ((i + 1 : Nat) : Int) := inc64 (by omega)
    refine ⟨(mdcmp_any x m W3 (hg x (List.mem_of_getElem? hx)) (hg m hm) (hG.kp (k1.trans k3) (fun h => h))).mono fun e w4 ⟨he, k4, _⟩ => ⟨_, he, .of_k0 k4, ?_⟩⟩
    have k34 := k3.trans k4
    have hb4 := k34.blk hb2 (fun h => h)
    rw [inc]
    refine bsp_intro (fun hlt2 => ?_) (fun hge2 => ?_)
    · have hlt2 : cfM x m < 0 := by simpa using hlt2
      refine nn_is hp0 ⟨⟨by omega, by omega⟩, x.id, x.g, x.tx, x.r, x.st, x.mo, x.de, x.rs, hat.k0 k34, WrL_block hb4 (by show 0 + 54 ≤ 54; omega), fun w5 hp5 => ⟨put_kept hp5 (fun z hz => ?_), ⟨i + 1, x, rfl, by omega, hlt, List.mem_of_getElem? hx, fun y hy => ?_, hp5.full hb4 rfl, (k1.trans k34).fresh hp5.kp (fun j hj e => by omega)⟩, by simp only [Int.toNat_natCast]; omega⟩⟩
      · simp only [List.mem_cons, List.not_mem_nil, or_false] at hz
        subst hz
        exact fun e => hap e.symm
      · rw [take_snoc hx] at hy
        rcases List.mem_append.1 hy with hy | hy
        · have h1 := hmin y hy
          have h2 := cfM_ord.anti y m
          have h3 := cfM_ord.anti y x
          intro hc
          rcases Int.lt_or_eq_of_le (show cfM x m ≤ 0 by omega) with h4 | h4
          · exact h1 (cfM_ord.tlt _ _ _ hc h4)
          · omega
        · simp at hy; subst hy
          have := cfM_ord.self y
          omega
    · have hge2 : ¬ cfM x m < 0 := by simpa using hge2
      refine ⟨⟨i + 1, m, rfl, by omega, hlt, hm, fun y hy => ?_, hb4, k1.trans k34⟩, by simp only [Int.toNat_natCast]; omega⟩
      rw [take_snoc hx] at hy
      rcases List.mem_append.1 hy with hy | hy
      · exact hmin y hy
      · simp at hy; subst hy; exact hge2
  · have hi : i = l.length := by simp at hge; omega
    subst hi
    rw [List.take_length] at hmin
    refine ⟨m.id, m.g, m.tx, m.r, m.st, m.mo, m.de, m.rs, AtL_block hb2 rfl, fun W hW => ⟨⟨m, rfl, hm, hmin⟩, hW.k0 k1⟩⟩

end Go.Proofs.YtfacflbmlfbeeaaGreatDoor
