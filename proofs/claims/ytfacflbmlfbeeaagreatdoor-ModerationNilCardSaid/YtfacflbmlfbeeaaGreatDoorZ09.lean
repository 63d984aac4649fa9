/- The formulas of functions by the symbolic evaluator, and that each gives the call's contract. Written by a program (gen.py). No condition. -/
import Derived.Test.YtfacflbmlfbeeaaGreatDoorProg
import Derived.Test.YtfacflbmlfbeeaaGreatDoorZ02
import Derived.Test.YtfacflbmlfbeeaaGreatDoorZ05
import Derived.Test.YtfacflbmlfbeeaaGreatDoorZ04
import Derived.KernelRfl
import Derived.Test.YtfacflbmlfbeeaaGreatDoorZ08
import Derived.Test.YtfacflbmlfbeeaaGreatDoorZ07
import Derived.Test.YtfacflbmlfbeeaaGreatDoorZ06
namespace Go.Proofs.YtfacflbmlfbeeaaGreatDoor
set_option maxRecDepth 100000
set_option linter.unusedVariables false

def VC_decide (b : Nat) (i : Nat → Int) (s : ByteArray) (a : Nat → Int) (now : Int) (st : Int) (rs : ByteArray) (w : World) (R : Ending → World → Prop) : Prop :=
 ∀ (n n_1 : Nat) (W : World),
 Loc w.heap.size
 [Blk.mk n_1 45
 (arrI IntKind.u8 a 16 0)
 2,
 Blk.mk n 32
 (arrI IntKind.u8 i 32 0)
 2]
 w W →
 CallsS Tryz.prog 75
 #[Value.pointer (some (Addr.mk b 0 none)), Value.string s,
 Value.agg
 (arrI IntKind.u8 a 16 0).toArray]
 W fun (e : Ending) (w' : World) =>
 ∃ (x : Bool),
 e = Ending.returned (Value.bool x) ∧
 KeptL [n_1, n] W w' ∧
 bsp (!x) (R (Ending.returned (Value.int IntKind.i64 20)) w')
 (∀ (W : World),
 Loc w.heap.size
 [Blk.mk n_1 45
 (arrI IntKind.u8 a 16 0)
 0,
 Blk.mk n 32
 (arrI IntKind.u8 i 32 0)
 0]
 w' W →
 ∃ (S : World → Prop),
 S W ∧
 ∃ (x : Option Nat),
 (∀ (w' : World), S w' → w'.cell? (Addr.mk b (0 + 4) none) = some (Value.map x)) ∧
 ∃ (f : Nat → Int),
 (∀ (w' : World),
 S w' →
 AtL w' n 0
 (arrI IntKind.u8 f 32 0)) ∧
 ∃ (f_1 : Nat → Int),
 ∃ (x_1 : ByteArray),
 ∃ (x_2 : ByteArray),
 ∃ (x_3 : Int),
 ∃ (x_4 : Int),
 ∃ (f_2 : Nat → Int),
 ∃ (x_5 : Int),
 ∃ (x_6 : ByteArray),
 ∃ (x_7 : Bool),
 ∃ (f_3 : Nat → Int),
 ∃ (x_8 : Int),
 ∃ (b_1 : Bool),
 (∀ (w' : World),
 S w' →
 LookP Tryz.prog 96 (Value.map x)
 (Value.agg
 (arrI IntKind.u8 f 32 0 ++ [Value.string s]).toArray)
 true
 (Value.tuple
 #[Value.agg
 (arrI IntKind.u8 f_1 32 0 ++ ([Value.string x_1,
 Value.string x_2, Value.int IntKind.i64 x_3, Value.int IntKind.i64 x_4] ++ arrI IntKind.u8 f_2 16 0 ++ ([Value.int IntKind.i64 x_5, Value.string x_6, Value.bool x_7] ++ arrI IntKind.u8 f_3 16 0 ++ [Value.int IntKind.i64 x_8]))).toArray,
 Value.bool b_1])
 w') ∧
 ∀ (n_2 : Nat) (w1 : World),
 NewB W
 (Obj.cells
 #[Value.int IntKind.u8 0, Value.int IntKind.u8 0, Value.int IntKind.u8 0,
 Value.int IntKind.u8 0, Value.int IntKind.u8 0, Value.int IntKind.u8 0,
 Value.int IntKind.u8 0, Value.int IntKind.u8 0, Value.int IntKind.u8 0,
 Value.int IntKind.u8 0, Value.int IntKind.u8 0, Value.int IntKind.u8 0,
 Value.int IntKind.u8 0, Value.int IntKind.u8 0, Value.int IntKind.u8 0,
 Value.int IntKind.u8 0, Value.int IntKind.u8 0, Value.int IntKind.u8 0,
 Value.int IntKind.u8 0, Value.int IntKind.u8 0, Value.int IntKind.u8 0,
 Value.int IntKind.u8 0, Value.int IntKind.u8 0, Value.int IntKind.u8 0,
 Value.int IntKind.u8 0, Value.int IntKind.u8 0, Value.int IntKind.u8 0,
 Value.int IntKind.u8 0, Value.int IntKind.u8 0, Value.int IntKind.u8 0,
 Value.int IntKind.u8 0, Value.int IntKind.u8 0, Value.string (ByteArray.mk #[]),
 Value.string (ByteArray.mk #[]), Value.int IntKind.i64 0, Value.int IntKind.i64 0,
 Value.int IntKind.u8 0, Value.int IntKind.u8 0, Value.int IntKind.u8 0,
 Value.int IntKind.u8 0, Value.int IntKind.u8 0, Value.int IntKind.u8 0,
 Value.int IntKind.u8 0, Value.int IntKind.u8 0, Value.int IntKind.u8 0,
 Value.int IntKind.u8 0, Value.int IntKind.u8 0, Value.int IntKind.u8 0,
 Value.int IntKind.u8 0, Value.int IntKind.u8 0, Value.int IntKind.u8 0,
 Value.int IntKind.u8 0, Value.int IntKind.i64 0, Value.string (ByteArray.mk #[]),
 Value.bool false, Value.int IntKind.u8 0, Value.int IntKind.u8 0,
 Value.int IntKind.u8 0, Value.int IntKind.u8 0, Value.int IntKind.u8 0,
 Value.int IntKind.u8 0, Value.int IntKind.u8 0, Value.int IntKind.u8 0,
 Value.int IntKind.u8 0, Value.int IntKind.u8 0, Value.int IntKind.u8 0,
 Value.int IntKind.u8 0, Value.int IntKind.u8 0, Value.int IntKind.u8 0,
 Value.int IntKind.u8 0, Value.int IntKind.u8 0, Value.int IntKind.i64 0]
 107)
 n_2 w1 →
 S w1 ∧
 WrL w1 n_2 0 72 ∧
 ∀ (w1_1 : World),
 PutB w1 n_2 0
 (arrI IntKind.u8 f_1 32 0 ++ ([Value.string x_1,
 Value.string x_2, Value.int IntKind.i64 x_3, Value.int IntKind.i64 x_4] ++ arrI IntKind.u8 f_2 16 0 ++ ([Value.int IntKind.i64 x_5, Value.string x_6, Value.bool x_7] ++ arrI IntKind.u8 f_3 16 0 ++ [Value.int IntKind.i64 x_8])))
 w1_1 →
 KeptL [n_1, n] W w1_1 ∧
 bsp (!b_1) (R (Ending.returned (Value.int IntKind.i64 8)) w1_1)
 (∃ (x : Int),
 w1_1.cell? (Addr.mk n_2 (0 + 35) none) = some (Value.int IntKind.i64 x) ∧
 bsp (x != 0) (R (Ending.returned (Value.int IntKind.i64 10)) w1_1)
 (∃ (f : Nat → Int),
 ∃ (x : ByteArray),
 ∃ (x_9 : ByteArray),
 ∃ (x_10 : Int),
 ∃ (x_11 : Int),
 ∃ (f_4 : Nat → Int),
 ∃ (x_12 : Int),
 ∃ (x_13 : ByteArray),
 ∃ (x_14 : Bool),
 ∃ (f_5 : Nat → Int),
 ∃ (x_15 : Int),
 AtL w1_1 n_2 0
 (arrI IntKind.u8 f 32 0 ++ ([Value.string x, Value.string x_9, Value.int IntKind.i64 x_10,
 Value.int IntKind.i64 x_11] ++ arrI IntKind.u8 f_4 16 0 ++ ([Value.int IntKind.i64 x_12,
 Value.string x_13, Value.bool x_14] ++ arrI IntKind.u8 f_5 16 0 ++ [Value.int IntKind.i64 x_15]))) ∧
 CallsS Tryz.prog 77
 #[Value.agg
 (arrI IntKind.u8 f 32 0 ++ ([Value.string x, Value.string x_9, Value.int IntKind.i64 x_10,
 Value.int IntKind.i64 x_11] ++ arrI IntKind.u8 f_4 16 0 ++ ([Value.int IntKind.i64 x_12,
 Value.string x_13, Value.bool x_14] ++ arrI IntKind.u8 f_5 16 0 ++ [Value.int IntKind.i64 x_15]))).toArray,
 Value.agg
 (arrI IntKind.u8 a 16 0).toArray,
 Value.int IntKind.i64 now]
 w1_1 fun (e : Ending) (w' : World) =>
 ∃ (x : Bool),
 e = Ending.returned (Value.bool x) ∧
 KeptL [n_1, n] w1_1 w' ∧
 bsp x (R (Ending.returned (Value.int IntKind.i64 25)) w')
 (∃ (f : Nat → Int),
 ∃ (x : ByteArray),
 ∃ (x_16 : ByteArray),
 ∃ (x_17 : Int),
 ∃ (x_18 : Int),
 ∃ (f_6 : Nat → Int),
 ∃ (x_19 : Int),
 ∃ (x_20 : ByteArray),
 AtL w' n_2 0
 (arrI IntKind.u8 f 32 0 ++ ([Value.string x,
 Value.string x_16, Value.int IntKind.i64 x_17,
 Value.int IntKind.i64 x_18] ++ arrI IntKind.u8 f_6 16 0 ++ [Value.int IntKind.i64 x_19, Value.string x_20])) ∧
 CallsS Tryz.prog 70
 #[Value.pointer (some (Addr.mk b 0 none)),
 Value.agg
 (arrI IntKind.u8 f 32 0 ++ ([Value.string x,
 Value.string x_16, Value.int IntKind.i64 x_17,
 Value.int IntKind.i64 x_18] ++ arrI IntKind.u8 f_6 16 0 ++ [Value.int IntKind.i64 x_19, Value.string x_20])).toArray,
 Value.agg
 (arrI IntKind.u8 a 16 0).toArray,
 Value.int IntKind.i64 now, Value.int IntKind.i64 st,
 Value.string rs]
 w' fun (e : Ending) (w'_1 : World) =>
 ∃ (f : Nat → Int),
 ∃ (x : ByteArray),
 ∃ (x_21 : ByteArray),
 ∃ (x_22 : Int),
 ∃ (x_23 : Int),
 ∃ (f_7 : Nat → Int),
 ∃ (x_24 : Int),
 ∃ (x_25 : ByteArray),
 e =
 Ending.returned
 (Value.agg
 (arrI IntKind.u8 f 32 0 ++ ([Value.string x, Value.string x_21,
 Value.int IntKind.i64 x_22,
 Value.int IntKind.i64 x_23] ++ arrI IntKind.u8 f_7 16 0 ++ [Value.int IntKind.i64 x_24,
 Value.string x_25])).toArray) ∧
 KeptL [n_1, n] w' w'_1 ∧
 R
 (Ending.returned (Value.int IntKind.i64 0))
 w'_1))))
theorem vc_decide (b : Nat) (i : Nat → Int) (s : ByteArray) (a : Nat → Int) (now : Int) (st : Int) (rs : ByteArray) (w : World) (R : Ending → World → Prop) (h : VC_decide b i s a now st rs w R) : Calls Tryz.prog 50 ([Value.pointer
    (some { block := b, off := 0 }),
  Value.agg (arrI IntKind.u8 i 32 0).toArray, Value.string s, Value.agg (arrI IntKind.u8 a 16 0).toArray,
  Value.int IntKind.i64 now, Value.int IntKind.i64 st, Value.string rs] : List Value).toArray w R := by
  have e : execR2 { P := Tryz.prog, loops := [], pur := pur1, tails := [(3, 11)], joins := [], boxes := [] } Tryz.f50.results.toList R (Tryz.f50.body.getD .skip) (initF [Value.pointer
    (some { block := b, off := 0 }),
  Value.agg (arrI IntKind.u8 i 32 0).toArray, Value.string s, Value.agg (arrI IntKind.u8 a 16 0).toArray,
  Value.int IntKind.i64 now, Value.int IntKind.i64 st,
  Value.string
    rs] (Tryz.f50.ntmps - ([Value.pointer (some { block := b, off := 0 }), Value.agg (arrI IntKind.u8 i 32 0).toArray,
  Value.string s, Value.agg (arrI IntKind.u8 a 16 0).toArray, Value.int IntKind.i64 now, Value.int IntKind.i64 st,
  Value.string rs] : List Value).length)) w = VC_decide b i s a now st rs w R := by kernel_rfl
  have hb : Tryz.f50.body = some (Tryz.f50.body.getD .skip) := by kernel_rfl
  exact calls_of_exec2' (P := Tryz.prog) (fn := Tryz.f50) (c := Tryz.f50.body.getD .skip) (args := [Value.pointer
    (some { block := b, off := 0 }),
  Value.agg (arrI IntKind.u8 i 32 0).toArray, Value.string s, Value.agg (arrI IntKind.u8 a 16 0).toArray,
  Value.int IntKind.i64 now, Value.int IntKind.i64 st, Value.string rs]) (w := w) (R := R) pur1_ok Tryz.func50 hb e h

def VC_finish (b : Nat) (id : Nat → Int) (mo : Nat → Int) (g : ByteArray) (t : ByteArray) (r : Int) (st : Int) (de : Int) (rs : ByteArray) (a : Nat → Int) (now : Int) (sn : Int) (rn : ByteArray) (w : World) (R : Ending → World → Prop) : Prop :=
 ∀ (n n_1 n_2 : Nat) (W : World),
 Loc w.heap.size
 [Blk.mk n_2 48
 [Value.int IntKind.u8 0, Value.int IntKind.u8 0, Value.int IntKind.u8 0, Value.int IntKind.u8 0,
 Value.int IntKind.u8 0, Value.int IntKind.u8 0, Value.int IntKind.u8 0, Value.int IntKind.u8 0,
 Value.int IntKind.u8 0, Value.int IntKind.u8 0, Value.int IntKind.u8 0, Value.int IntKind.u8 0,
 Value.int IntKind.u8 0, Value.int IntKind.u8 0, Value.int IntKind.u8 0, Value.int IntKind.u8 0,
 Value.int IntKind.u8 0, Value.int IntKind.u8 0, Value.int IntKind.u8 0, Value.int IntKind.u8 0,
 Value.int IntKind.u8 0, Value.int IntKind.u8 0, Value.int IntKind.u8 0, Value.int IntKind.u8 0,
 Value.int IntKind.u8 0, Value.int IntKind.u8 0, Value.int IntKind.u8 0, Value.int IntKind.u8 0,
 Value.int IntKind.u8 0, Value.int IntKind.u8 0, Value.int IntKind.u8 0, Value.int IntKind.u8 0,
 Value.string (ByteArray.mk #[]), Value.string (ByteArray.mk #[]), Value.int IntKind.i64 0,
 Value.int IntKind.i64 0, Value.int IntKind.u8 0, Value.int IntKind.u8 0, Value.int IntKind.u8 0,
 Value.int IntKind.u8 0, Value.int IntKind.u8 0, Value.int IntKind.u8 0, Value.int IntKind.u8 0,
 Value.int IntKind.u8 0, Value.int IntKind.u8 0, Value.int IntKind.u8 0, Value.int IntKind.u8 0,
 Value.int IntKind.u8 0, Value.int IntKind.u8 0, Value.int IntKind.u8 0, Value.int IntKind.u8 0,
 Value.int IntKind.u8 0, Value.int IntKind.i64 0, Value.string (ByteArray.mk #[])]
 2,
 Blk.mk n_1 45
 (arrI IntKind.u8 a 16 0)
 2,
 Blk.mk n 48
 (arrI IntKind.u8 id 32 0 ++ ([Value.string g, Value.string t,
 Value.int IntKind.i64 r, Value.int IntKind.i64 st] ++ arrI IntKind.u8 mo 16 0 ++ [Value.int IntKind.i64 de, Value.string rs]))
 2]
 w W →
 ∃ (S : World → Prop),
 S W ∧
 ∃ (f : Nat → Int),
 (∀ (w' : World),
 S w' →
 AtL w' n_1 0
 (arrI IntKind.u8 f 16 0)) ∧
 ((∃ (u : Value), W.cell? (Addr.mk n (0 + 35) none) = some u) ∧ W.frozen? (Addr.mk n (0 + 35) none) = false) ∧
 ∀ (w1 : World),
 PutB W n (0 + 35) [Value.int IntKind.i64 sn] w1 →
 S w1 ∧
 WrL w1 n (0 + 36) 16 ∧
 ∀ (w1_1 : World),
 PutB w1 n (0 + 36)
 (arrI IntKind.u8 f 16 0)
 w1_1 →
 ((∃ (u : Value), w1_1.cell? (Addr.mk n (0 + 52) none) = some u) ∧
 w1_1.frozen? (Addr.mk n (0 + 52) none) = false) ∧
 ∀ (w1 : World),
 PutB w1_1 n (0 + 52) [Value.int IntKind.i64 now] w1 →
 ((∃ (u : Value), w1.cell? (Addr.mk n (0 + 53) none) = some u) ∧
 w1.frozen? (Addr.mk n (0 + 53) none) = false) ∧
 ∀ (w1_2 : World),
 PutB w1 n (0 + 53) [Value.string rn] w1_2 →
 KeptL [n_2, n_1] W w1_2 ∧
 ∃ (x : Option Nat),
 (∀ (W : World),
 Loc w.heap.size
 [Blk.mk n_2 48
 [Value.int IntKind.u8 0, Value.int IntKind.u8 0, Value.int IntKind.u8 0,
 Value.int IntKind.u8 0, Value.int IntKind.u8 0, Value.int IntKind.u8 0,
 Value.int IntKind.u8 0, Value.int IntKind.u8 0, Value.int IntKind.u8 0,
 Value.int IntKind.u8 0, Value.int IntKind.u8 0, Value.int IntKind.u8 0,
 Value.int IntKind.u8 0, Value.int IntKind.u8 0, Value.int IntKind.u8 0,
 Value.int IntKind.u8 0, Value.int IntKind.u8 0, Value.int IntKind.u8 0,
 Value.int IntKind.u8 0, Value.int IntKind.u8 0, Value.int IntKind.u8 0,
 Value.int IntKind.u8 0, Value.int IntKind.u8 0, Value.int IntKind.u8 0,
 Value.int IntKind.u8 0, Value.int IntKind.u8 0, Value.int IntKind.u8 0,
 Value.int IntKind.u8 0, Value.int IntKind.u8 0, Value.int IntKind.u8 0,
 Value.int IntKind.u8 0, Value.int IntKind.u8 0, Value.string (ByteArray.mk #[]),
 Value.string (ByteArray.mk #[]), Value.int IntKind.i64 0, Value.int IntKind.i64 0,
 Value.int IntKind.u8 0, Value.int IntKind.u8 0, Value.int IntKind.u8 0,
 Value.int IntKind.u8 0, Value.int IntKind.u8 0, Value.int IntKind.u8 0,
 Value.int IntKind.u8 0, Value.int IntKind.u8 0, Value.int IntKind.u8 0,
 Value.int IntKind.u8 0, Value.int IntKind.u8 0, Value.int IntKind.u8 0,
 Value.int IntKind.u8 0, Value.int IntKind.u8 0, Value.int IntKind.u8 0,
 Value.int IntKind.u8 0, Value.int IntKind.i64 0, Value.string (ByteArray.mk #[])]
 0,
 Blk.mk n_1 45
 (arrI IntKind.u8 a 16 0)
 0]
 w1_2 W →
 W.cell? (Addr.mk b (0 + 4) none) = some (Value.map x)) ∧
 ∃ (f : Nat → Int),
 (∀ (W : World),
 Loc w.heap.size
 [Blk.mk n_2 48
 [Value.int IntKind.u8 0, Value.int IntKind.u8 0, Value.int IntKind.u8 0,
 Value.int IntKind.u8 0, Value.int IntKind.u8 0, Value.int IntKind.u8 0,
 Value.int IntKind.u8 0, Value.int IntKind.u8 0, Value.int IntKind.u8 0,
 Value.int IntKind.u8 0, Value.int IntKind.u8 0, Value.int IntKind.u8 0,
 Value.int IntKind.u8 0, Value.int IntKind.u8 0, Value.int IntKind.u8 0,
 Value.int IntKind.u8 0, Value.int IntKind.u8 0, Value.int IntKind.u8 0,
 Value.int IntKind.u8 0, Value.int IntKind.u8 0, Value.int IntKind.u8 0,
 Value.int IntKind.u8 0, Value.int IntKind.u8 0, Value.int IntKind.u8 0,
 Value.int IntKind.u8 0, Value.int IntKind.u8 0, Value.int IntKind.u8 0,
 Value.int IntKind.u8 0, Value.int IntKind.u8 0, Value.int IntKind.u8 0,
 Value.int IntKind.u8 0, Value.int IntKind.u8 0, Value.string (ByteArray.mk #[]),
 Value.string (ByteArray.mk #[]), Value.int IntKind.i64 0, Value.int IntKind.i64 0,
 Value.int IntKind.u8 0, Value.int IntKind.u8 0, Value.int IntKind.u8 0,
 Value.int IntKind.u8 0, Value.int IntKind.u8 0, Value.int IntKind.u8 0,
 Value.int IntKind.u8 0, Value.int IntKind.u8 0, Value.int IntKind.u8 0,
 Value.int IntKind.u8 0, Value.int IntKind.u8 0, Value.int IntKind.u8 0,
 Value.int IntKind.u8 0, Value.int IntKind.u8 0, Value.int IntKind.u8 0,
 Value.int IntKind.u8 0, Value.int IntKind.i64 0, Value.string (ByteArray.mk #[])]
 0,
 Blk.mk n_1 45
 (arrI IntKind.u8 a 16 0)
 0]
 w1_2 W →
 AtL W n 0
 (arrI IntKind.u8 f 32 0)) ∧
 ∃ (x_1 : ByteArray),
 (∀ (W : World),
 Loc w.heap.size
 [Blk.mk n_2 48
 [Value.int IntKind.u8 0, Value.int IntKind.u8 0, Value.int IntKind.u8 0,
 Value.int IntKind.u8 0, Value.int IntKind.u8 0, Value.int IntKind.u8 0,
 Value.int IntKind.u8 0, Value.int IntKind.u8 0, Value.int IntKind.u8 0,
 Value.int IntKind.u8 0, Value.int IntKind.u8 0, Value.int IntKind.u8 0,
 Value.int IntKind.u8 0, Value.int IntKind.u8 0, Value.int IntKind.u8 0,
 Value.int IntKind.u8 0, Value.int IntKind.u8 0, Value.int IntKind.u8 0,
 Value.int IntKind.u8 0, Value.int IntKind.u8 0, Value.int IntKind.u8 0,
 Value.int IntKind.u8 0, Value.int IntKind.u8 0, Value.int IntKind.u8 0,
 Value.int IntKind.u8 0, Value.int IntKind.u8 0, Value.int IntKind.u8 0,
 Value.int IntKind.u8 0, Value.int IntKind.u8 0, Value.int IntKind.u8 0,
 Value.int IntKind.u8 0, Value.int IntKind.u8 0, Value.string (ByteArray.mk #[]),
 Value.string (ByteArray.mk #[]), Value.int IntKind.i64 0, Value.int IntKind.i64 0,
 Value.int IntKind.u8 0, Value.int IntKind.u8 0, Value.int IntKind.u8 0,
 Value.int IntKind.u8 0, Value.int IntKind.u8 0, Value.int IntKind.u8 0,
 Value.int IntKind.u8 0, Value.int IntKind.u8 0, Value.int IntKind.u8 0,
 Value.int IntKind.u8 0, Value.int IntKind.u8 0, Value.int IntKind.u8 0,
 Value.int IntKind.u8 0, Value.int IntKind.u8 0, Value.int IntKind.u8 0,
 Value.int IntKind.u8 0, Value.int IntKind.i64 0, Value.string (ByteArray.mk #[])]
 0,
 Blk.mk n_1 45
 (arrI IntKind.u8 a 16 0)
 0]
 w1_2 W →
 W.cell? (Addr.mk n (0 + 32) none) = some (Value.string x_1)) ∧
 ∃ (f_1 : Nat → Int),
 ∃ (x_2 : ByteArray),
 ∃ (x_3 : ByteArray),
 ∃ (x_4 : Int),
 ∃ (x_5 : Int),
 ∃ (f_2 : Nat → Int),
 ∃ (x_6 : Int),
 ∃ (x_7 : ByteArray),
 (∀ (W : World),
 Loc w.heap.size
 [Blk.mk n_2 48
 [Value.int IntKind.u8 0, Value.int IntKind.u8 0, Value.int IntKind.u8 0,
 Value.int IntKind.u8 0, Value.int IntKind.u8 0, Value.int IntKind.u8 0,
 Value.int IntKind.u8 0, Value.int IntKind.u8 0, Value.int IntKind.u8 0,
 Value.int IntKind.u8 0, Value.int IntKind.u8 0, Value.int IntKind.u8 0,
 Value.int IntKind.u8 0, Value.int IntKind.u8 0, Value.int IntKind.u8 0,
 Value.int IntKind.u8 0, Value.int IntKind.u8 0, Value.int IntKind.u8 0,
 Value.int IntKind.u8 0, Value.int IntKind.u8 0, Value.int IntKind.u8 0,
 Value.int IntKind.u8 0, Value.int IntKind.u8 0, Value.int IntKind.u8 0,
 Value.int IntKind.u8 0, Value.int IntKind.u8 0, Value.int IntKind.u8 0,
 Value.int IntKind.u8 0, Value.int IntKind.u8 0, Value.int IntKind.u8 0,
 Value.int IntKind.u8 0, Value.int IntKind.u8 0,
 Value.string (ByteArray.mk #[]), Value.string (ByteArray.mk #[]),
 Value.int IntKind.i64 0, Value.int IntKind.i64 0, Value.int IntKind.u8 0,
 Value.int IntKind.u8 0, Value.int IntKind.u8 0, Value.int IntKind.u8 0,
 Value.int IntKind.u8 0, Value.int IntKind.u8 0, Value.int IntKind.u8 0,
 Value.int IntKind.u8 0, Value.int IntKind.u8 0, Value.int IntKind.u8 0,
 Value.int IntKind.u8 0, Value.int IntKind.u8 0, Value.int IntKind.u8 0,
 Value.int IntKind.u8 0, Value.int IntKind.u8 0, Value.int IntKind.u8 0,
 Value.int IntKind.i64 0, Value.string (ByteArray.mk #[])]
 0,
 Blk.mk n_1 45
 (arrI IntKind.u8 a 16 0)
 0]
 w1_2 W →
 AtL W n 0
 (arrI IntKind.u8 f_1 32 0 ++ ([Value.string x_2,
 Value.string x_3, Value.int IntKind.i64 x_4, Value.int IntKind.i64 x_5] ++ arrI IntKind.u8 f_2 16 0 ++ [Value.int IntKind.i64 x_6, Value.string x_7]))) ∧
 ∀ (W : World),
 Loc w.heap.size
 [Blk.mk n_2 48
 [Value.int IntKind.u8 0, Value.int IntKind.u8 0, Value.int IntKind.u8 0,
 Value.int IntKind.u8 0, Value.int IntKind.u8 0, Value.int IntKind.u8 0,
 Value.int IntKind.u8 0, Value.int IntKind.u8 0, Value.int IntKind.u8 0,
 Value.int IntKind.u8 0, Value.int IntKind.u8 0, Value.int IntKind.u8 0,
 Value.int IntKind.u8 0, Value.int IntKind.u8 0, Value.int IntKind.u8 0,
 Value.int IntKind.u8 0, Value.int IntKind.u8 0, Value.int IntKind.u8 0,
 Value.int IntKind.u8 0, Value.int IntKind.u8 0, Value.int IntKind.u8 0,
 Value.int IntKind.u8 0, Value.int IntKind.u8 0, Value.int IntKind.u8 0,
 Value.int IntKind.u8 0, Value.int IntKind.u8 0, Value.int IntKind.u8 0,
 Value.int IntKind.u8 0, Value.int IntKind.u8 0, Value.int IntKind.u8 0,
 Value.int IntKind.u8 0, Value.int IntKind.u8 0,
 Value.string (ByteArray.mk #[]), Value.string (ByteArray.mk #[]),
 Value.int IntKind.i64 0, Value.int IntKind.i64 0, Value.int IntKind.u8 0,
 Value.int IntKind.u8 0, Value.int IntKind.u8 0, Value.int IntKind.u8 0,
 Value.int IntKind.u8 0, Value.int IntKind.u8 0, Value.int IntKind.u8 0,
 Value.int IntKind.u8 0, Value.int IntKind.u8 0, Value.int IntKind.u8 0,
 Value.int IntKind.u8 0, Value.int IntKind.u8 0, Value.int IntKind.u8 0,
 Value.int IntKind.u8 0, Value.int IntKind.u8 0, Value.int IntKind.u8 0,
 Value.int IntKind.i64 0, Value.string (ByteArray.mk #[])]
 0,
 Blk.mk n_1 45
 (arrI IntKind.u8 a 16 0)
 0]
 w1_2 W →
 ∃ (w1 : World),
 UpdP Tryz.prog 96 (Value.map x)
 (Value.agg
 (arrI IntKind.u8 f 32 0 ++ [Value.string x_1]).toArray)
 (Value.agg
 (arrI IntKind.u8 f_1 32 0 ++ ([Value.string x_2, Value.string x_3, Value.int IntKind.i64 x_4,
 Value.int IntKind.i64 x_5] ++ arrI IntKind.u8 f_2 16 0 ++ [Value.int IntKind.i64 x_6, Value.string x_7,
 Value.bool false, Value.int IntKind.u8 0, Value.int IntKind.u8 0,
 Value.int IntKind.u8 0, Value.int IntKind.u8 0, Value.int IntKind.u8 0,
 Value.int IntKind.u8 0, Value.int IntKind.u8 0, Value.int IntKind.u8 0,
 Value.int IntKind.u8 0, Value.int IntKind.u8 0, Value.int IntKind.u8 0,
 Value.int IntKind.u8 0, Value.int IntKind.u8 0, Value.int IntKind.u8 0,
 Value.int IntKind.u8 0, Value.int IntKind.u8 0, Value.int IntKind.i64 0])).toArray)
 W w1 ∧
 KeptL [n_2, n_1] W w1 ∧
 ∃ (x : Int),
 w1.cell? (Addr.mk b (0 + 2) none) = some (Value.int IntKind.i64 x) ∧
 ((∃ (u : Value), w1.cell? (Addr.mk b (0 + 2) none) = some u) ∧
 w1.frozen? (Addr.mk b (0 + 2) none) = false) ∧
 ∀ (w1_3 : World),
 PutB w1 b (0 + 2) [Value.int IntKind.i64 (IntKind.i64.wrap (x - 1))] w1_3 →
 KeptL [n_2, n_1] w1 w1_3 ∧
 ∃ (f : Nat → Int),
 ∃ (x : ByteArray),
 ∃ (x_8 : ByteArray),
 ∃ (x_9 : Int),
 ∃ (x_10 : Int),
 ∃ (f_3 : Nat → Int),
 ∃ (x_11 : Int),
 ∃ (x_12 : ByteArray),
 AtL w1_3 n 0
 (arrI IntKind.u8 f 32 0 ++ ([Value.string x, Value.string x_8, Value.int IntKind.i64 x_9,
 Value.int IntKind.i64 x_10] ++ arrI IntKind.u8 f_3 16 0 ++ [Value.int IntKind.i64 x_11,
 Value.string x_12])) ∧
 ∀ (W : World),
 Loc w.heap.size
 [Blk.mk n_2 48
 (arrI IntKind.u8 f 32 0 ++ ([Value.string x, Value.string x_8,
 Value.int IntKind.i64 x_9, Value.int IntKind.i64 x_10] ++ arrI IntKind.u8 f_3 16 0 ++ [Value.int IntKind.i64 x_11,
 Value.string x_12]))
 (wrM 0),
 Blk.mk n_1 45
 (arrI IntKind.u8 a 16 0)
 0]
 w1_3 W →
 R
 (Ending.returned
 (Value.agg
 (arrI IntKind.u8 f 32 0 ++ ([Value.string x, Value.string x_8,
 Value.int IntKind.i64 x_9, Value.int IntKind.i64 x_10] ++ arrI IntKind.u8 f_3 16 0 ++ [Value.int IntKind.i64 x_11,
 Value.string x_12])).toArray))
 W
theorem vc_finish (b : Nat) (id : Nat → Int) (mo : Nat → Int) (g : ByteArray) (t : ByteArray) (r : Int) (st : Int) (de : Int) (rs : ByteArray) (a : Nat → Int) (now : Int) (sn : Int) (rn : ByteArray) (w : World) (R : Ending → World → Prop) (h : VC_finish b id mo g t r st de rs a now sn rn w R) : Calls Tryz.prog 70 ([Value.pointer
    (some { block := b, off := 0 }),
  Value.agg
    (arrI IntKind.u8 id 32 0 ++
        ([Value.string g, Value.string t, Value.int IntKind.i64 r, Value.int IntKind.i64 st] ++
          (arrI IntKind.u8 mo 16 0 ++ [Value.int IntKind.i64 de, Value.string rs]))).toArray,
  Value.agg (arrI IntKind.u8 a 16 0).toArray, Value.int IntKind.i64 now, Value.int IntKind.i64 sn,
  Value.string rn] : List Value).toArray w R := by
  have e : execR2 { P := Tryz.prog, loops := [], pur := pur1, tails := [(1, 5), (2, 11)], joins := [], boxes := [] } Tryz.f70.results.toList R (Tryz.f70.body.getD .skip) (initF [Value.pointer
    (some { block := b, off := 0 }),
  Value.agg
    (arrI IntKind.u8 id 32 0 ++
        ([Value.string g, Value.string t, Value.int IntKind.i64 r, Value.int IntKind.i64 st] ++
          (arrI IntKind.u8 mo 16 0 ++ [Value.int IntKind.i64 de, Value.string rs]))).toArray,
  Value.agg (arrI IntKind.u8 a 16 0).toArray, Value.int IntKind.i64 now, Value.int IntKind.i64 sn,
  Value.string
    rn] (Tryz.f70.ntmps - ([Value.pointer (some { block := b, off := 0 }),
  Value.agg
    (arrI IntKind.u8 id 32 0 ++
        ([Value.string g, Value.string t, Value.int IntKind.i64 r, Value.int IntKind.i64 st] ++
          (arrI IntKind.u8 mo 16 0 ++ [Value.int IntKind.i64 de, Value.string rs]))).toArray,
  Value.agg (arrI IntKind.u8 a 16 0).toArray, Value.int IntKind.i64 now, Value.int IntKind.i64 sn,
  Value.string rn] : List Value).length)) w = VC_finish b id mo g t r st de rs a now sn rn w R := by kernel_rfl
  have hb : Tryz.f70.body = some (Tryz.f70.body.getD .skip) := by kernel_rfl
  exact calls_of_exec2' (P := Tryz.prog) (fn := Tryz.f70) (c := Tryz.f70.body.getD .skip) (args := [Value.pointer
    (some { block := b, off := 0 }),
  Value.agg
    (arrI IntKind.u8 id 32 0 ++
        ([Value.string g, Value.string t, Value.int IntKind.i64 r, Value.int IntKind.i64 st] ++
          (arrI IntKind.u8 mo 16 0 ++ [Value.int IntKind.i64 de, Value.string rs]))).toArray,
  Value.agg (arrI IntKind.u8 a 16 0).toArray, Value.int IntKind.i64 now, Value.int IntKind.i64 sn,
  Value.string rn]) (w := w) (R := R) pur1_ok Tryz.func70 hb e h

def VC_approve (b : Nat) (i : Nat → Int) (s : ByteArray) (a : Nat → Int) (now : Int) (w : World) (R : Ending → World → Prop) : Prop :=
 ∀ (n n_1 n_2 : Nat) (W : World),
 Loc w.heap.size
 [Blk.mk n_2 42
 [Value.int IntKind.i64 0, Value.int IntKind.u8 0, Value.int IntKind.u8 0, Value.int IntKind.u8 0,
 Value.int IntKind.u8 0, Value.int IntKind.u8 0, Value.int IntKind.u8 0, Value.int IntKind.u8 0,
 Value.int IntKind.u8 0, Value.int IntKind.u8 0, Value.int IntKind.u8 0, Value.int IntKind.u8 0,
 Value.int IntKind.u8 0, Value.int IntKind.u8 0, Value.int IntKind.u8 0, Value.int IntKind.u8 0,
 Value.int IntKind.u8 0, Value.int IntKind.u8 0, Value.int IntKind.u8 0, Value.int IntKind.u8 0,
 Value.int IntKind.u8 0, Value.int IntKind.u8 0, Value.int IntKind.u8 0, Value.int IntKind.u8 0,
 Value.int IntKind.u8 0, Value.int IntKind.u8 0, Value.int IntKind.u8 0, Value.int IntKind.u8 0,
 Value.int IntKind.u8 0, Value.int IntKind.u8 0, Value.int IntKind.u8 0, Value.int IntKind.u8 0,
 Value.int IntKind.u8 0, Value.string (ByteArray.mk #[]), Value.int IntKind.i64 0, Value.bool false,
 Value.slice none 0 0, Value.string (ByteArray.mk #[]), Value.int IntKind.i64 0, Value.int IntKind.i64 0,
 Value.int IntKind.u8 0, Value.int IntKind.u8 0, Value.int IntKind.u8 0, Value.int IntKind.u8 0,
 Value.int IntKind.u8 0, Value.int IntKind.u8 0, Value.int IntKind.u8 0, Value.int IntKind.u8 0,
 Value.int IntKind.u8 0, Value.int IntKind.u8 0, Value.int IntKind.u8 0, Value.int IntKind.u8 0,
 Value.int IntKind.u8 0, Value.int IntKind.u8 0, Value.int IntKind.u8 0, Value.int IntKind.u8 0]
 2,
 Blk.mk n_1 45
 (arrI IntKind.u8 a 16 0)
 2,
 Blk.mk n 32
 (arrI IntKind.u8 i 32 0)
 2]
 w W →
 CallsS Tryz.prog 48 #[Value.pointer (some (Addr.mk b 0 none)), Value.int IntKind.i64 now] W
 fun (e : Ending) (w' : World) =>
 ∃ (x : Int),
 e = Ending.returned (Value.int IntKind.i64 x) ∧
 KeptL [n_2, n_1, n] W w' ∧
 bsp (x != 0)
 (∀ (W : World),
 Loc w.heap.size
 [Blk.mk n_2 42
 [Value.int IntKind.i64 0, Value.int IntKind.u8 0, Value.int IntKind.u8 0, Value.int IntKind.u8 0,
 Value.int IntKind.u8 0, Value.int IntKind.u8 0, Value.int IntKind.u8 0, Value.int IntKind.u8 0,
 Value.int IntKind.u8 0, Value.int IntKind.u8 0, Value.int IntKind.u8 0, Value.int IntKind.u8 0,
 Value.int IntKind.u8 0, Value.int IntKind.u8 0, Value.int IntKind.u8 0, Value.int IntKind.u8 0,
 Value.int IntKind.u8 0, Value.int IntKind.u8 0, Value.int IntKind.u8 0, Value.int IntKind.u8 0,
 Value.int IntKind.u8 0, Value.int IntKind.u8 0, Value.int IntKind.u8 0, Value.int IntKind.u8 0,
 Value.int IntKind.u8 0, Value.int IntKind.u8 0, Value.int IntKind.u8 0, Value.int IntKind.u8 0,
 Value.int IntKind.u8 0, Value.int IntKind.u8 0, Value.int IntKind.u8 0, Value.int IntKind.u8 0,
 Value.int IntKind.u8 0, Value.string (ByteArray.mk #[]), Value.int IntKind.i64 0, Value.bool false,
 Value.slice none 0 0, Value.string (ByteArray.mk #[]), Value.int IntKind.i64 0, Value.int IntKind.i64 0,
 Value.int IntKind.u8 0, Value.int IntKind.u8 0, Value.int IntKind.u8 0, Value.int IntKind.u8 0,
 Value.int IntKind.u8 0, Value.int IntKind.u8 0, Value.int IntKind.u8 0, Value.int IntKind.u8 0,
 Value.int IntKind.u8 0, Value.int IntKind.u8 0, Value.int IntKind.u8 0, Value.int IntKind.u8 0,
 Value.int IntKind.u8 0, Value.int IntKind.u8 0, Value.int IntKind.u8 0, Value.int IntKind.u8 0]
 (wrM 0),
 Blk.mk n_1 45
 (arrI IntKind.u8 a 16 0)
 0,
 Blk.mk n 32
 (arrI IntKind.u8 i 32 0)
 0]
 w' W →
 R
 (Ending.returned
 (Value.tuple
 #[Value.agg
 #[Value.int IntKind.i64 0, Value.int IntKind.u8 0, Value.int IntKind.u8 0, Value.int IntKind.u8 0,
 Value.int IntKind.u8 0, Value.int IntKind.u8 0, Value.int IntKind.u8 0, Value.int IntKind.u8 0,
 Value.int IntKind.u8 0, Value.int IntKind.u8 0, Value.int IntKind.u8 0, Value.int IntKind.u8 0,
 Value.int IntKind.u8 0, Value.int IntKind.u8 0, Value.int IntKind.u8 0, Value.int IntKind.u8 0,
 Value.int IntKind.u8 0, Value.int IntKind.u8 0, Value.int IntKind.u8 0, Value.int IntKind.u8 0,
 Value.int IntKind.u8 0, Value.int IntKind.u8 0, Value.int IntKind.u8 0, Value.int IntKind.u8 0,
 Value.int IntKind.u8 0, Value.int IntKind.u8 0, Value.int IntKind.u8 0, Value.int IntKind.u8 0,
 Value.int IntKind.u8 0, Value.int IntKind.u8 0, Value.int IntKind.u8 0, Value.int IntKind.u8 0,
 Value.int IntKind.u8 0, Value.string (ByteArray.mk #[]), Value.int IntKind.i64 0, Value.bool false,
 Value.slice none 0 0, Value.string (ByteArray.mk #[]), Value.int IntKind.i64 0, Value.int IntKind.i64 0,
 Value.int IntKind.u8 0, Value.int IntKind.u8 0, Value.int IntKind.u8 0, Value.int IntKind.u8 0,
 Value.int IntKind.u8 0, Value.int IntKind.u8 0, Value.int IntKind.u8 0, Value.int IntKind.u8 0,
 Value.int IntKind.u8 0, Value.int IntKind.u8 0, Value.int IntKind.u8 0, Value.int IntKind.u8 0,
 Value.int IntKind.u8 0, Value.int IntKind.u8 0, Value.int IntKind.u8 0, Value.int IntKind.u8 0],
 Value.int IntKind.i64 x]))
 W)
 (CallsS Tryz.prog 50
 #[Value.pointer (some (Addr.mk b 0 none)),
 Value.agg
 (arrI IntKind.u8 i 32 0).toArray,
 Value.string s,
 Value.agg
 (arrI IntKind.u8 a 16 0).toArray,
 Value.int IntKind.i64 now, Value.int IntKind.i64 1, Value.string (ByteArray.mk #[])]
 w' fun (e : Ending) (w'_1 : World) =>
 ∃ (x : Int),
 e = Ending.returned (Value.int IntKind.i64 x) ∧
 KeptL [n_2, n_1, n] w' w'_1 ∧
 bsp (x != 0)
 (∀ (W : World),
 Loc w.heap.size
 [Blk.mk n_2 42
 [Value.int IntKind.i64 0, Value.int IntKind.u8 0, Value.int IntKind.u8 0, Value.int IntKind.u8 0,
 Value.int IntKind.u8 0, Value.int IntKind.u8 0, Value.int IntKind.u8 0, Value.int IntKind.u8 0,
 Value.int IntKind.u8 0, Value.int IntKind.u8 0, Value.int IntKind.u8 0, Value.int IntKind.u8 0,
 Value.int IntKind.u8 0, Value.int IntKind.u8 0, Value.int IntKind.u8 0, Value.int IntKind.u8 0,
 Value.int IntKind.u8 0, Value.int IntKind.u8 0, Value.int IntKind.u8 0, Value.int IntKind.u8 0,
 Value.int IntKind.u8 0, Value.int IntKind.u8 0, Value.int IntKind.u8 0, Value.int IntKind.u8 0,
 Value.int IntKind.u8 0, Value.int IntKind.u8 0, Value.int IntKind.u8 0, Value.int IntKind.u8 0,
 Value.int IntKind.u8 0, Value.int IntKind.u8 0, Value.int IntKind.u8 0, Value.int IntKind.u8 0,
 Value.int IntKind.u8 0, Value.string (ByteArray.mk #[]), Value.int IntKind.i64 0, Value.bool false,
 Value.slice none 0 0, Value.string (ByteArray.mk #[]), Value.int IntKind.i64 0,
 Value.int IntKind.i64 0, Value.int IntKind.u8 0, Value.int IntKind.u8 0, Value.int IntKind.u8 0,
 Value.int IntKind.u8 0, Value.int IntKind.u8 0, Value.int IntKind.u8 0, Value.int IntKind.u8 0,
 Value.int IntKind.u8 0, Value.int IntKind.u8 0, Value.int IntKind.u8 0, Value.int IntKind.u8 0,
 Value.int IntKind.u8 0, Value.int IntKind.u8 0, Value.int IntKind.u8 0, Value.int IntKind.u8 0,
 Value.int IntKind.u8 0]
 (wrM 0),
 Blk.mk n_1 45
 (arrI IntKind.u8 a 16 0)
 0,
 Blk.mk n 32
 (arrI IntKind.u8 i 32 0)
 0]
 w'_1 W →
 R
 (Ending.returned
 (Value.tuple
 #[Value.agg
 #[Value.int IntKind.i64 0, Value.int IntKind.u8 0, Value.int IntKind.u8 0, Value.int IntKind.u8 0,
 Value.int IntKind.u8 0, Value.int IntKind.u8 0, Value.int IntKind.u8 0, Value.int IntKind.u8 0,
 Value.int IntKind.u8 0, Value.int IntKind.u8 0, Value.int IntKind.u8 0, Value.int IntKind.u8 0,
 Value.int IntKind.u8 0, Value.int IntKind.u8 0, Value.int IntKind.u8 0, Value.int IntKind.u8 0,
 Value.int IntKind.u8 0, Value.int IntKind.u8 0, Value.int IntKind.u8 0, Value.int IntKind.u8 0,
 Value.int IntKind.u8 0, Value.int IntKind.u8 0, Value.int IntKind.u8 0, Value.int IntKind.u8 0,
 Value.int IntKind.u8 0, Value.int IntKind.u8 0, Value.int IntKind.u8 0, Value.int IntKind.u8 0,
 Value.int IntKind.u8 0, Value.int IntKind.u8 0, Value.int IntKind.u8 0, Value.int IntKind.u8 0,
 Value.int IntKind.u8 0, Value.string (ByteArray.mk #[]), Value.int IntKind.i64 0, Value.bool false,
 Value.slice none 0 0, Value.string (ByteArray.mk #[]), Value.int IntKind.i64 0,
 Value.int IntKind.i64 0, Value.int IntKind.u8 0, Value.int IntKind.u8 0, Value.int IntKind.u8 0,
 Value.int IntKind.u8 0, Value.int IntKind.u8 0, Value.int IntKind.u8 0, Value.int IntKind.u8 0,
 Value.int IntKind.u8 0, Value.int IntKind.u8 0, Value.int IntKind.u8 0, Value.int IntKind.u8 0,
 Value.int IntKind.u8 0, Value.int IntKind.u8 0, Value.int IntKind.u8 0, Value.int IntKind.u8 0,
 Value.int IntKind.u8 0],
 Value.int IntKind.i64 x]))
 W)
 (∀ (W : World),
 Loc w.heap.size
 [Blk.mk n_2 42
 ([Value.int IntKind.i64 2] ++ arrI IntKind.u8 i 32 0 ++ [Value.string s,
 Value.int IntKind.i64 0, Value.bool false, Value.slice none 0 0, Value.string (ByteArray.mk #[]),
 Value.int IntKind.i64 0, Value.int IntKind.i64 0, Value.int IntKind.u8 0, Value.int IntKind.u8 0,
 Value.int IntKind.u8 0, Value.int IntKind.u8 0, Value.int IntKind.u8 0, Value.int IntKind.u8 0,
 Value.int IntKind.u8 0, Value.int IntKind.u8 0, Value.int IntKind.u8 0, Value.int IntKind.u8 0,
 Value.int IntKind.u8 0, Value.int IntKind.u8 0, Value.int IntKind.u8 0, Value.int IntKind.u8 0,
 Value.int IntKind.u8 0, Value.int IntKind.u8 0])
 (wrM 0),
 Blk.mk n_1 45
 (arrI IntKind.u8 a 16 0)
 0,
 Blk.mk n 32
 (arrI IntKind.u8 i 32 0)
 0]
 w'_1 W →
 R
 (Ending.returned
 (Value.tuple
 #[Value.agg
 ([Value.int IntKind.i64 2] ++ arrI IntKind.u8 i 32 0 ++ [Value.string s, Value.int IntKind.i64 0, Value.bool false, Value.slice none 0 0,
 Value.string (ByteArray.mk #[]), Value.int IntKind.i64 0, Value.int IntKind.i64 0,
 Value.int IntKind.u8 0, Value.int IntKind.u8 0, Value.int IntKind.u8 0, Value.int IntKind.u8 0,
 Value.int IntKind.u8 0, Value.int IntKind.u8 0, Value.int IntKind.u8 0, Value.int IntKind.u8 0,
 Value.int IntKind.u8 0, Value.int IntKind.u8 0, Value.int IntKind.u8 0, Value.int IntKind.u8 0,
 Value.int IntKind.u8 0, Value.int IntKind.u8 0, Value.int IntKind.u8 0, Value.int IntKind.u8 0]).toArray,
 Value.int IntKind.i64 0]))
 W))
theorem vc_approve (b : Nat) (i : Nat → Int) (s : ByteArray) (a : Nat → Int) (now : Int) (w : World) (R : Ending → World → Prop) (h : VC_approve b i s a now w R) : Calls Tryz.prog 19 ([Value.pointer
    (some { block := b, off := 0 }),
  Value.agg (arrI IntKind.u8 i 32 0).toArray, Value.string s, Value.agg (arrI IntKind.u8 a 16 0).toArray,
  Value.int IntKind.i64 now] : List Value).toArray w R := by
  have e : execR2 { P := Tryz.prog, loops := [], pur := pur1, tails := [], joins := [], boxes := [] } Tryz.f19.results.toList R (Tryz.f19.body.getD .skip) (initF [Value.pointer
    (some { block := b, off := 0 }),
  Value.agg (arrI IntKind.u8 i 32 0).toArray, Value.string s, Value.agg (arrI IntKind.u8 a 16 0).toArray,
  Value.int IntKind.i64
    now] (Tryz.f19.ntmps - ([Value.pointer (some { block := b, off := 0 }), Value.agg (arrI IntKind.u8 i 32 0).toArray,
  Value.string s, Value.agg (arrI IntKind.u8 a 16 0).toArray,
  Value.int IntKind.i64 now] : List Value).length)) w = VC_approve b i s a now w R := by kernel_rfl
  have hb : Tryz.f19.body = some (Tryz.f19.body.getD .skip) := by kernel_rfl
  exact calls_of_exec2' (P := Tryz.prog) (fn := Tryz.f19) (c := Tryz.f19.body.getD .skip) (args := [Value.pointer
    (some { block := b, off := 0 }),
  Value.agg (arrI IntKind.u8 i 32 0).toArray, Value.string s, Value.agg (arrI IntKind.u8 a 16 0).toArray,
  Value.int IntKind.i64 now]) (w := w) (R := R) pur1_ok Tryz.func19 hb e h

end Go.Proofs.YtfacflbmlfbeeaaGreatDoor

/- Chapter 39: the contracts of finish, decide, Approve. The library's variable MaxLen holds a number. -/
namespace Go.Proofs.YtfacflbmlfbeeaaGreatDoor
open Go.RowKit Go.Sort Go.Maps

theorem putL_mid : ∀ (vs a b c : List Value), vs.length = b.length → putL (a ++ (b ++ c)) a.length vs = a ++ (vs ++ c)
  | [], a, b, c, h => by
    have : b = [] := List.eq_nil_of_length_eq_zero h.symm
    subst this; rfl
  | v :: r, a, [], c, h => by simp at h
  | v :: r, a, x :: b, c, h => by
    have ih := putL_mid r (a ++ [v]) b c (by simpa using h)
    simp only [putL]
    have e : (a ++ (x :: b ++ c)).set a.length v = (a ++ [v]) ++ (b ++ c) := by
      rw [List.set_append_right _ _ (Nat.le_refl _), Nat.sub_self]
      simp
    rw [e, show a.length + 1 = (a ++ [v]).length by simp, ih]
    simp
theorem put_mo {w w1 : World} {n : Nat} {x : Sb} {a : Nat → Int} {t : TypeId} (h : w.heap[n]? = some (.cells (sbC x).toArray t (0, 0))) (hp : PutB w n (0 + 36) (arrI .u8 a 16 0) w1) : w1.heap[n]? = some (.cells (sbC { x with mo := a }).toArray t (0, 0)) := by
  have h1 := hp.block h
  have e1 : (sbC x).toArray.toList = (arrI .u8 x.id 32 0 ++ ([.string x.g, .string x.tx, .int .i64 x.r, .int .i64 x.st] : List Value)) ++ (arrI .u8 x.mo 16 0 ++ ([.int .i64 x.de, .string x.rs] : List Value)) := by
    unfold sbC
    simp only [List.append_assoc]
  have e2 := putL_mid (arrI .u8 a 16 0) (arrI .u8 x.id 32 0 ++ ([.string x.g, .string x.tx, .int .i64 x.r, .int .i64 x.st] : List Value)) (arrI .u8 x.mo 16 0) ([.int .i64 x.de, .string x.rs] : List Value) rfl
  rw [e1, show 0 + 36 = (arrI .u8 x.id 32 0 ++ ([.string x.g, .string x.tx, .int .i64 x.r, .int .i64 x.st] : List Value)).length from rfl, e2] at h1
  rw [h1]
  unfold sbC
  simp only [List.append_assoc]
/-- A submission that is decided. -/
def finS39 (x : Sb) (a : Nat → Int) (now st : Int) (rs : ByteArray) : Sb := { x with st := st, mo := a, de := now, rs := rs }
def plainE (x : Sb) : En := ⟨x, false, fun _ => 0, 0⟩
def finQ (q : Qu) (x : Sb) : Qu := { q with es := aset q.es x.ky (plainE x), wt := q.wt - 1 }
set_option maxHeartbeats 2000000 in
set_option maxRecDepth 100000 in
theorem finish_any {w : World} {b mb eb : Nat} {q : Qu} (h : Mq w b mb eb q) (hwt : 1 ≤ q.wt ∧ q.wt ≤ 10000) (x : Sb) (hx : BY x.id) (hg : x.g.size ≤ 1073741824) (a : Nat → Int) (now st : Int) (rs : ByteArray) :
    Calls Tryz.prog 70 #[.pointer (some ⟨b, 0, none⟩), sbV x, .agg (arrI .u8 a 16 0).toArray, .int .i64 now, .int .i64 st, .string rs] w fun e w' => e = .returned (sbV (finS39 x a now st rs)) ∧ Mq w' b mb eb (finQ q (finS39 x a now st rs)) ∧ Kp (QB b mb eb) w w' := by
  refine vc_finish b x.id x.mo x.g x.tx x.r x.st x.de x.rs a now st rs w _ (fun n n1 n2 W hW => ?_)
  have kW : K0 w W := hW.kk rfl
  have c0 := hW.cells 0 rfl
  have c1 := hW.cells 1 rfl
  have c2 := hW.cells 2 rfl
  have g2 : w.heap.size ≤ n := hW.fresh 2 rfl rfl
  have a12 := hW.apart 1 2 rfl rfl (by decide)
  have a02 := hW.apart 0 2 rfl rfl (by decide)
  simp only at a12 a02
  refine ⟨fun wx => Kp (· = n) W wx, .refl _ _, a, fun wx k => AtL_block (k.blk c1 (fun e => a12 e)) rfl, ⟨⟨_, cell_at c2 rfl⟩, frozen_block c2 _⟩, fun w1 p1 => ⟨p1.kp, ?_⟩⟩
  have d1 : w1.heap[n]? = some (.cells (sbC { x with st := st }).toArray 48 (0, 0)) := p1.block c2
  refine ⟨WrL_block d1 (by show 0 + 36 + 16 ≤ 54; omega), fun w2 p2 => ?_⟩
  have d2 : w2.heap[n]? = some (.cells (sbC { x with st := st, mo := a }).toArray 48 (0, 0)) := put_mo d1 p2
  refine ⟨⟨⟨_, cell_at d2 rfl⟩, frozen_block d2 _⟩, fun w3 p3 => ?_⟩
  have d3 : w3.heap[n]? = some (.cells (sbC { x with st := st, mo := a, de := now }).toArray 48 (0, 0)) := p3.block d2
  refine ⟨⟨⟨_, cell_at d3 rfl⟩, frozen_block d3 _⟩, fun w4 p4 => ?_⟩
  have d4 : w4.heap[n]? = some (.cells (sbC (finS39 x a now st rs)).toArray 48 (0, 0)) := p4.block d3
  have k4 : Kp (· = n) W w4 := ((p1.kp.trans p2.kp).trans p3.kp).trans p4.kp
  have k04 : K0 w w4 := kW.fresh k4 (fun i hi e => by omega)
  have h4 := h.k0 k04
  have b0 := k4.blk c0 a02
  have b1 := k4.blk c1 a12
  generalize hX : finS39 x a now st rs = X at d4 ⊢
  have hXi : X.id = x.id := by rw [← hX]; rfl
  have hXg : X.g = x.g := by rw [← hX]; rfl
  refine ⟨.of_kp k4 (fun z hz => ?_), some eb, fun W5 hW5 => (h4.k0 (hW5.kk rfl)).cE, X.id, fun W5 hW5 => AtL_block ((hW5.kk rfl : K0 w4 W5).blk d4 (fun h => h)) rfl, X.g, fun W5 hW5 => cell_at ((hW5.kk rfl : K0 w4 W5).blk d4 (fun h => h)) rfl, X.id, X.g, X.tx, X.r, X.st, X.mo, X.de, X.rs, fun W5 hW5 => AtL_block ((hW5.kk rfl : K0 w4 W5).blk d4 (fun h => h)) rfl, fun W5 hW5 => ?_⟩
  · simp only [List.mem_cons, List.not_mem_nil, or_false] at hz
    rcases hz with rfl | rfl
    · exact a02
    · exact a12
  have k5 : K0 w4 W5 := hW5.kk rfl
  have h5 := h4.k0 k5
  have e0 := hW5.cells 0 rfl
  have e1 := hW5.cells 1 rfl
  have e4 := k5.blk d4 (fun h => h)
  obtain ⟨w6, hu, h6, k6⟩ := h5.updE (plainE X) (f := X.id) (by rw [hXi]; exact hx) (g := X.g) (by rw [hXg]; exact hg)
  have neE : ∀ {z : Nat} {c : Array Value} {t : TypeId} {f : Nat × Nat}, W5.heap[z]? = some (.cells c t f) → z ≠ eb := fun hz e => by
    obtain ⟨es, k, hb, _⟩ := h5.me.blk
    rw [e, hb] at hz; cases hz
  have f0 := k6.blk e0 (neE e0)
  have f1 := k6.blk e1 (neE e1)
  have f4 := k6.blk e4 (neE e4)
  refine ⟨w6, hu, h5.kept k6 (fun k e => .inr (.inr e)) (fun z hz => ?_), q.wt, h6.cW, h6.wrW, fun w7 p7 => ⟨h6.kept p7.kp (fun k e => .inl e) (fun z hz => ?_), X.id, X.g, X.tx, X.r, X.st, X.mo, X.de, X.rs, ?_, fun W8 hW8 => ⟨rfl, ?_⟩⟩⟩
  · simp only [List.mem_cons, List.not_mem_nil, or_false] at hz
    rcases hz with rfl | rfl
    · exact ⟨_, _, _, e0, rfl⟩
    · exact ⟨_, _, _, e1, rfl⟩
  · simp only [List.mem_cons, List.not_mem_nil, or_false] at hz
    rcases hz with rfl | rfl
    · exact ⟨_, _, _, f0, rfl⟩
    · exact ⟨_, _, _, f1, rfl⟩
  · exact AtL_block (p7.kp.blk f4 (fun e => by have hs := h6.st; have e : n = b := e; rw [e, hs] at f4; simp at f4)) rfl
  · rw [wr64 (by omega) (by omega)] at p7
    have h7 := h6.putW p7
    have k7 : Kp (QB b mb eb) w w7 := ((k04.trans k5).q0.trans (k6.qb (fun k e => .inr (.inr e)))).trans (p7.kp.qb (fun k e => .inl e))
    exact h.loc h7 rfl k7 hW8

/-! ### decide, Approve -/
def decE (q : Qu) (id : Nat → Int) (g : ByteArray) (a : Nat → Int) (now : Int) : Int :=
  if isMB (q.md g) a = false then 20 else if (aget q.es (idI id, g)).isSome = false then 8 else if (q.en (idI id, g)).s.st ≠ 0 then 10 else if blk (q.en (idI id, g)) (auI a) now = true then 25 else 0
def decQ (q : Qu) (id : Nat → Int) (g : ByteArray) (a : Nat → Int) (now st : Int) (rs : ByteArray) : Qu :=
  if decE q id g a now = 0 then finQ q (finS39 (q.en (idI id, g)).s a now st rs) else q
theorem Qu.OK.en {q : Qu} (h : q.OK) {k : Ky} (hs : (aget q.es k).isSome = true) : (q.en k).OK ∧ k = (q.en k).s.ky := by
  unfold Qu.en
  cases hgt : aget q.es k with
  | none => rw [hgt] at hs; cases hs
  | some x =>
    have := h.es k x hgt
    exact ⟨this.1, this.2.1⟩
theorem cnt_pos {l : List (Ky × En)} {P : Ky × En → Bool} {p : Ky × En} (hm : p ∈ l) (hp : P p = true) : 1 ≤ (l.filter P).length := List.length_pos_iff.2 (List.ne_nil_of_mem (List.mem_filter.2 ⟨hm, hp⟩))
set_option maxHeartbeats 2000000 in
set_option maxRecDepth 100000 in
theorem decide_any39 {w : World} {b mb eb : Nat} {q : Qu} (h : Mq w b mb eb q) (ho : q.OK) (hln : q.es.length ≤ 10000) (id : Nat → Int) (hid : BY id) (g : ByteArray) (hg : g.size ≤ 1073741824) (a : Nat → Int) (ha : BY a) (now : Int) (hn : 0 ≤ now ∧ now ≤ 105190559) (st : Int) (rs : ByteArray) :
    Calls Tryz.prog 50 #[.pointer (some ⟨b, 0, none⟩), .agg (arrI .u8 id 32 0).toArray, .string g, .agg (arrI .u8 a 16 0).toArray, .int .i64 now, .int .i64 st, .string rs] w fun e w' => e = .returned (.int .i64 (decE q id g a now)) ∧ Mq w' b mb eb (decQ q id g a now st rs) ∧ Kp (QB b mb eb) w w' := by
  refine vc_decide b id g a now st rs w _ (fun n n1 W hW => ?_)
  have kW : K0 w W := hW.kk rfl
  have c0 := hW.cells 0 rfl
  have c1 := hW.cells 1 rfl
  unfold decQ decE
  refine ⟨(ismod_any (h.k0 kW) ho g hg a ha).mono fun e w1 ⟨he, k1⟩ => ⟨_, he, .of_k0 k1, bsp_intro (fun h1 => ?_) (fun h1 W2 hW2 => ?_)⟩⟩
  · have h1 : isMB (q.md g) a = false := by simpa using h1
    rw [if_pos h1, if_neg (by decide)]
    exact ⟨rfl, h.k0 (kW.trans k1), (kW.trans k1).q0⟩
  have h1 : isMB (q.md g) a = true := by simpa using h1
  rw [h1, if_neg (by decide)]
  have k2 : K0 w W2 := hW2.k0 (kW.trans k1)
  have h2 := h.k0 k2
  have d0 := hW2.cells 0 rfl
  have d1 := hW2.cells 1 rfl
  have heq : q.en (idI id, g) = q.en (idI id, g) := rfl
  generalize hX : q.en (idI id, g) = X at heq
  refine ⟨fun wx => K0 W2 wx, .refl _ _, some eb, fun wx k => (h2.k0 k).cE, id, fun wx k => AtL_block (k.blk d1 (fun h => h)) rfl, X.s.id, X.s.g, X.s.tx, X.s.r, X.s.st, X.s.mo, X.s.de, X.s.rs, X.le, X.ho, X.si, (aget q.es (idI id, g)).isSome, fun wx k => by have := (h2.k0 k).lookE hid hg; rw [hX] at this; exact this, fun n4 w4 hn4 => ⟨hn4.kp _, WrL_block hn4.block (by show 0 + 72 ≤ 72; omega), fun w5 p5 => ?_⟩⟩
  have k5 : K0 W2 w5 := put_k0 (hn4.kp _) p5 hn4.ge
  have b4 : w5.heap[n4]? = some (.cells (enC X).toArray 107 (0, 0)) := p5.full hn4.block rfl
  have k05 := k2.trans k5
  have h5 := h.k0 k05
  have e0 := k5.blk d0 (fun h => h)
  have e1 := k5.blk d1 (fun h => h)
  refine ⟨.of_k0 k5, bsp_intro (fun h3 => ?_) (fun h3 => ⟨X.s.st, cell_at b4 rfl, bsp_intro (fun h4 => ?_) (fun h4 => ?_)⟩)⟩
  · have h3 : (aget q.es (idI id, g)).isSome = false := by simpa using h3
    rw [if_pos h3, if_neg (by decide)]
    exact ⟨rfl, h5, k05.q0⟩
  · have h3 : (aget q.es (idI id, g)).isSome = true := by simpa using h3
    have h4 : X.s.st ≠ 0 := by simpa using h4
    rw [if_neg (by rw [h3]; decide), if_pos h4, if_neg (by decide)]
    exact ⟨rfl, h5, k05.q0⟩
  have h3 : (aget q.es (idI id, g)).isSome = true := by simpa using h3
  have h4 : X.s.st = 0 := by simpa using h4
  rw [if_neg (by rw [h3]; decide), if_neg (by omega)]
  obtain ⟨hxo, hxk⟩ := ho.en h3
  rw [hX] at hxo hxk
  refine ⟨X.s.id, X.s.g, X.s.tx, X.s.r, X.s.st, X.s.mo, X.s.de, X.s.rs, X.le, X.ho, X.si, AtL_block b4 rfl, ?_⟩
  refine ⟨(blocked_any X a now hxo ha hn w5).mono fun e w6 ⟨he, k6⟩ => ⟨_, he, .of_k0 k6, bsp_intro (fun h6 => ?_) (fun h6 => ?_)⟩⟩
  · rw [if_pos h6, if_neg (by decide)]
    exact ⟨rfl, h5.k0 k6, (k05.trans k6).q0⟩
  rw [if_neg (by rw [h6]; decide), if_pos rfl]
  have b6 := k6.blk b4 (fun h => h)
  have k06 := k05.trans k6
  have hm : ((idI id, g), X) ∈ q.es := by
    have h7 : aget q.es (idI id, g) = some X := by
      cases hgt : aget q.es (idI id, g) with
      | none => rw [hgt] at h3; cases h3
      | some y =>
        have : q.en (idI id, g) = y := by unfold Qu.en; rw [hgt]; rfl
        rw [← hX, this]
    exact aget_mem h7
  have hpos : 1 ≤ (q.es.filter fun p => p.2.s.st == 0).length := cnt_pos hm (by simp [h4])
  have hle : (q.es.filter fun p => p.2.s.st == 0).length ≤ q.es.length := List.length_filter_le _ _
  have hwt := ho.wt
  refine ⟨X.s.id, X.s.g, X.s.tx, X.s.r, X.s.st, X.s.mo, X.s.de, X.s.rs, AtL_block b6 rfl, ?_⟩
  refine ⟨(finish_any (h.k0 k06) (by omega) X.s hxo.s.id hxo.s.g a now st rs).mono fun e w7 ⟨he, h7, k7⟩ => ?_⟩
  generalize hY : finS39 X.s a now st rs = Y at he h7 ⊢
  refine ⟨Y.id, Y.g, Y.tx, Y.r, Y.st, Y.mo, Y.de, Y.rs, he, (h.k0 k06).kept k7 (fun k e => e) (fun z hz => ?_), rfl, h7, k06.q0.trans k7⟩
  simp only [List.mem_cons, List.not_mem_nil, or_false] at hz
  rcases hz with rfl | rfl
  · exact ⟨_, _, _, k6.blk e0 (fun h => h), rfl⟩
  · exact ⟨_, _, _, k6.blk e1 (fun h => h), rfl⟩

end Go.Proofs.YtfacflbmlfbeeaaGreatDoor

/- Chapter 39: queues stay as they should be; the contract of Approve. The library's variable MaxLen holds a number. -/
namespace Go.Proofs.YtfacflbmlfbeeaaGreatDoor
open Go.RowKit Go.Sort Go.Maps

theorem cnt_set {β : Type} {P : Ky × β → Bool} {k : Ky} {u v : β} : ∀ l : List (Ky × β), aget l k = some u → ((aset l k v).filter P).length + (if P (k, u) = true then 1 else 0) = (l.filter P).length + (if P (k, v) = true then 1 else 0)
  | [], h => by simp [aget] at h
  | (b, w) :: r, h => by
    unfold aget at h
    unfold aset
    by_cases hb : b = k
    · rw [if_pos hb] at h
      cases h
      subst hb
      rw [if_pos rfl]
      simp only [List.filter_cons]
      split <;> split <;> simp <;> omega
    · rw [if_neg hb] at h
      have ih := cnt_set (P := P) (v := v) r h
      rw [if_neg hb]
      cases hP : P (b, w) with
      | true => rw [List.filter_cons_of_pos hP, List.filter_cons_of_pos hP, List.length_cons, List.length_cons]; omega
      | false => rw [List.filter_cons_of_neg (by rw [hP]; decide), List.filter_cons_of_neg (by rw [hP]; decide)]; exact ih
theorem Qu.OK.setR {q q' : Qu} (h : q.OK) {g : ByteArray} {l : List (Nat → Int)} (hl : ∀ m ∈ l, BY m ∧ NZ 16 m) (hR : setR q g l q') : q'.OK := by
  rcases hR with ⟨_, rfl⟩ | ⟨_, _, rfl⟩ | ⟨hE, hne, x, hp, _, hc, rfl⟩
  · exact h
  · refine ⟨h.room, h.days, h.wt, fun g' y hy => ?_, h.es⟩
    have hy : aget (adel q.ms g) g' = some y := hy
    rw [aget_adel] at hy
    split at hy
    · cases hy
    · exact h.ms g' y hy
  · have h0 : gnE g = 0 ∧ ¬ 8 < l.length := by
      unfold setE at hE
      split at hE
      · contradiction
      · rename_i h1
        split at hE
        · cases hE
        · rename_i h2
          exact ⟨by simpa using h1, h2⟩
    refine ⟨h.room, h.days, h.wt, fun g' y hy => ?_, h.es⟩
    have hy : aget (aset q.ms g x) g' = some y := hy
    rw [aget_aset] at hy
    split at hy
    · rename_i e
      cases hy
      subst e
      refine ⟨h0.1, ⟨fun m hm => hl m (hp.subset hm), by rw [hp.length_eq]; omega, hc⟩, fun e => hne ?_⟩
      rw [e] at hp
      exact List.nil_perm.1 hp
    · exact h.ms g' y hy
theorem i64s {x : Int} (h : 0 ≤ x ∧ x ≤ 105190559) : I64 x := ⟨by omega, by omega⟩
theorem by0 : BY fun _ => 0 := fun _ => ⟨Int.le_refl 0, by show (0 : Int) ≤ 255; decide⟩
theorem newE_ok {id : Nat → Int} {g tx : ByteArray} {now : Int} (hid : BY id ∧ NZ 32 id) (hg : g.size ≤ 80) (ht : tx.size ≤ 65536) (hn : 0 ≤ now ∧ now ≤ 105190559) : (newE id g tx now).OK :=
  ⟨⟨hid.1, hid.2, by0, fun _ _ => rfl, by show g.size ≤ _; omega, by show tx.size ≤ _; omega, by show (⟨#[]⟩ : ByteArray).size ≤ _; decide, i64s hn, ⟨by show _ ≤ (0 : Int); decide, by show (0 : Int) ≤ _; decide⟩, ⟨by show _ ≤ (0 : Int); decide, by show (0 : Int) ≤ _; decide⟩⟩, by0, fun _ _ => rfl, ⟨by show (0 : Int) ≤ 0; decide, by show (0 : Int) ≤ _; decide⟩⟩
theorem Qu.OK.sub {q : Qu} (h : q.OK) {id : Nat → Int} {g tx : ByteArray} {now : Int} (hid : BY id ∧ NZ 32 id) : (subQ q id g tx now).OK := by
  unfold subQ
  split
  · rename_i h0
    unfold subE at h0
    split at h0
    · cases h0
    rename_i h1
    split at h0
    · contradiction
    rename_i h2
    split at h0
    · cases h0
    rename_i h3
    split at h0
    · cases h0
    split at h0
    · cases h0
    rename_i h5
    split at h0
    · cases h0
    have hn := minB_iff.1 (show minB now = true by simpa using h1)
    have h2 : gnE g = 0 := by simpa using h2
    have hg := gnE_sz39 h2
    have hnone : aget q.es (idI id, g) = none := by
      cases hgt : aget q.es (idI id, g) with
      | none => rfl
      | some y => rw [hgt] at h5; exact absurd rfl h5
    have hnew : aset q.es (idI id, g) (newE id g tx now) = q.es ++ [((idI id, g), newE id g tx now)] := aset_new (aget_none.1 hnone)
    refine ⟨h.room, h.days, ?_, h.ms, fun k x hx => ?_⟩
    · show q.wt + 1 = (((aset q.es (idI id, g) (newE id g tx now)).filter _).length : Nat)
      rw [hnew, List.filter_append, List.length_append]
      have := h.wt
      have e : ([((idI id, g), newE id g tx now)].filter fun p : Ky × En => p.2.s.st == 0).length = 1 := rfl
      rw [e]
      omega
    · have hx : aget (aset q.es (idI id, g) (newE id g tx now)) k = some x := hx
      rw [aget_aset] at hx
      split at hx
      · rename_i e
        cases hx
        exact ⟨newE_ok hid hg (by omega) hn, e.symm, h2, by show tx.size ≤ _; omega, by show (⟨#[]⟩ : ByteArray).size ≤ _; decide, hn, ⟨by show (0 : Int) ≤ 0; decide, by show (0 : Int) ≤ _; decide⟩, ⟨by show (0 : Int) ≤ 0; decide, by show (0 : Int) ≤ _; decide⟩⟩
      · exact h.es k x hx
  · exact h
theorem Qu.OK.put {q : Qu} (h : q.OK) {k : Ky} {u v : En} (hu : aget q.es k = some u) {wt : Int} (hw : wt + (if u.s.st == 0 then 1 else 0) = q.wt + (if v.s.st == 0 then 1 else 0))
    (hv : v.OK ∧ k = v.s.ky ∧ gnE v.s.g = 0 ∧ v.s.tx.size ≤ 65536 ∧ v.s.rs.size ≤ 200 ∧ (0 ≤ v.s.r ∧ v.s.r ≤ 105190559) ∧ (0 ≤ v.s.de ∧ v.s.de ≤ 105190559) ∧ (0 ≤ v.s.st ∧ v.s.st ≤ 3)) : ({ q with es := aset q.es k v, wt := wt } : Qu).OK := by
  refine ⟨h.room, h.days, ?_, h.ms, fun k' x hx => ?_⟩
  · show wt = (((aset q.es k v).filter _).length : Nat)
    have h1 := cnt_set (P := fun p : Ky × En => p.2.s.st == 0) (v := v) q.es hu
    have h2 := h.wt
    simp only at h1
    split at hw <;> split at hw <;> simp_all <;> omega
  · have hx : aget (aset q.es k v) k' = some x := hx
    rw [aget_aset] at hx
    split at hx
    · rename_i e; cases hx; subst e; exact hv
    · exact h.es k' x hx
theorem Qu.OK.clm {q : Qu} (h : q.OK) (hd : q.es.Pairwise fun p q => p.1 ≠ q.1) {P : En → Bool} {x : Sb} (hx : x ∈ selE P q.es) {a : Nat → Int} (ha : BY a ∧ NZ 16 a) {now : Int} (hn : 0 ≤ now ∧ now ≤ 105190559) : ({ q with es := aset q.es x.ky ⟨x, true, a, now⟩ } : Qu).OK := by
  obtain ⟨k, e, hm, _, rfl⟩ := selE_mem hx
  have hg := aget_at hd hm
  obtain ⟨h1, h2, h3⟩ := h.es k e hg
  subst h2
  exact h.put (v := ⟨e.s, true, a, now⟩) hg rfl ⟨⟨h1.s, ha.1, ha.2, hn⟩, rfl, h3⟩
theorem Qu.OK.fin {q : Qu} (h : q.OK) {k : Ky} {u : En} (hu : aget q.es k = some u) (hs : u.s.st = 0) {a : Nat → Int} (ha : BY a ∧ NZ 16 a) {now : Int} (hn : 0 ≤ now ∧ now ≤ 105190559) {st : Int} (hst : 1 ≤ st ∧ st ≤ 3) {rs : ByteArray} (hr : rs.size ≤ 200) : (finQ q (finS39 u.s a now st rs)).OK := by
  obtain ⟨h1, h2, h3, h4, h5, h6, h7, h8⟩ := h.es k u hu
  subst h2
  refine h.put (v := plainE (finS39 u.s a now st rs)) hu ?_ ⟨⟨⟨h1.s.id, h1.s.idz, ha.1, ha.2, h1.s.g, h1.s.tx, by show rs.size ≤ _; omega, h1.s.r, ⟨by show _ ≤ st; omega, by show st ≤ _; omega⟩, i64s hn⟩, by0, fun _ _ => rfl, ⟨by show (0 : Int) ≤ 0; decide, by show (0 : Int) ≤ _; decide⟩⟩, rfl, h3, h4, hr, h6, hn, ⟨by show 0 ≤ st; omega, hst.2⟩⟩
  have e1 : (u.s.st == 0) = true := by simp [hs]
  have e2 : ((plainE (finS39 u.s a now st rs)).s.st == 0) = false := by show (st == 0) = false; simp; omega
  rw [e1, e2]
  simp
theorem Qu.OK.dec {q : Qu} (h : q.OK) {id : Nat → Int} {g : ByteArray} {a : Nat → Int} (ha : BY a ∧ NZ 16 a) {now : Int} (hn : 0 ≤ now ∧ now ≤ 105190559) {st : Int} (hst : 1 ≤ st ∧ st ≤ 3) {rs : ByteArray} (hr : rs.size ≤ 200) : (decQ q id g a now st rs).OK := by
  unfold decQ
  split
  · rename_i h0
    unfold decE at h0
    split at h0
    · cases h0
    split at h0
    · cases h0
    rename_i h2
    split at h0
    · cases h0
    rename_i h3
    cases hgt : aget q.es (idI id, g) with
    | none => rw [hgt] at h2; exact absurd rfl h2
    | some u =>
      have hen : q.en (idI id, g) = u := by unfold Qu.en; rw [hgt]; rfl
      rw [hen] at h3 ⊢
      exact h.fin hgt (by simpa using h3) ha hn hst hr
  · exact h

/-! ### Approve -/
def apC (k : Int) (f : Nat → Int) (g : ByteArray) : List Value := ([.int .i64 k] : List Value) ++ (arrI .u8 f 32 0 ++ (([.string g, .int .i64 0, .bool false, .slice none 0 0, .string ⟨#[]⟩, .int .i64 0, .int .i64 0] : List Value) ++ arrI .u8 (fun _ => 0) 16 0))
def apE (q : Qu) (id : Nat → Int) (g : ByteArray) (a : Nat → Int) (now : Int) : Int := if minB now = false then 2 else decE q id g a now
def apQ (q : Qu) (id : Nat → Int) (g : ByteArray) (a : Nat → Int) (now st : Int) (rs : ByteArray) : Qu := if minB now = false then q else decQ q id g a now st rs
def cmdL (e : Int) (id : Nat → Int) (g : ByteArray) : List Value := if e = 0 then apC 2 id g else apC 0 (fun _ => 0) ⟨#[]⟩
set_option maxRecDepth 100000 in
theorem approve_any {w : World} {b mb eb : Nat} {q : Qu} (h : Mq w b mb eb q) (ho : q.OK) (hln : q.es.length ≤ 10000) (id : Nat → Int) (hid : BY id) (g : ByteArray) (hg : g.size ≤ 1073741824) (a : Nat → Int) (ha : BY a) (now : Int) :
    Calls Tryz.prog 19 #[.pointer (some ⟨b, 0, none⟩), .agg (arrI .u8 id 32 0).toArray, .string g, .agg (arrI .u8 a 16 0).toArray, .int .i64 now] w fun e w' => e = .returned (.tuple #[.agg (cmdL (apE q id g a now) id g).toArray, .int .i64 (apE q id g a now)]) ∧ Mq w' b mb eb (apQ q id g a now 1 ⟨#[]⟩) ∧ Kp (QB b mb eb) w w' := by
  refine vc_approve b id g a now w _ (fun n n1 n2 W hW => ?_)
  have kW : K0 w W := hW.kk rfl
  have c0 := hW.cells 0 rfl
  have c1 := hW.cells 1 rfl
  have c2 := hW.cells 2 rfl
  refine ⟨(begin_any b now W).mono fun e w1 ⟨he, k1⟩ => ⟨_, he, .of_k0 k1, bsp_intro (fun h1 W2 hW2 => ?_) (fun h1 => ?_)⟩⟩
  · have h1 : minB now = false := by
      cases hm : minB now with
      | false => rfl
      | true => rw [hm] at h1; simp at h1
    have hE : apE q id g a now = 2 := by unfold apE; rw [h1, if_pos rfl]
    have hQ : apQ q id g a now 1 ⟨#[]⟩ = q := by unfold apQ; rw [h1, if_pos rfl]
    have hC : cmdL 2 id g = apC 0 (fun _ => 0) ⟨#[]⟩ := by unfold cmdL; rw [if_neg (by decide)]
    rw [hE, hQ, hC, h1]
    have k2 : K0 w W2 := hW2.k0 (kW.trans k1)
    exact ⟨rfl, h.k0 k2, k2.q0⟩
  have h1 : minB now = true := by
    cases hm : minB now with
    | true => rfl
    | false => rw [hm] at h1; simp at h1
  have hE : apE q id g a now = decE q id g a now := by unfold apE; rw [h1, if_neg (by decide)]
  have hQ : apQ q id g a now 1 ⟨#[]⟩ = decQ q id g a now 1 ⟨#[]⟩ := by unfold apQ; rw [h1, if_neg (by decide)]
  rw [hE, hQ]
  have k01 := kW.trans k1
  refine ⟨(decide_any39 (h.k0 k01) ho hln id hid g hg a ha now (minB_iff.1 h1) 1 ⟨#[]⟩).mono fun e w2 ⟨he, h2, k2⟩ => ⟨_, he, (h.k0 k01).kept k2 (fun k e => e) (fun z hz => ?_), bsp_intro (fun h3 W3 hW3 => ?_) (fun h3 W3 hW3 => ?_)⟩⟩
  · simp only [List.mem_cons, List.not_mem_nil, or_false] at hz
    rcases hz with rfl | rfl | rfl
    · exact ⟨_, _, _, k1.blk c0 (fun h => h), rfl⟩
    · exact ⟨_, _, _, k1.blk c1 (fun h => h), rfl⟩
    · exact ⟨_, _, _, k1.blk c2 (fun h => h), rfl⟩
  · have h3 : decE q id g a now ≠ 0 := by simpa using h3
    have hC : cmdL (decE q id g a now) id g = apC 0 (fun _ => 0) ⟨#[]⟩ := by unfold cmdL; rw [if_neg h3]
    rw [hC]
    have hq : decQ q id g a now 1 ⟨#[]⟩ = q := by unfold decQ; rw [if_neg h3]
    rw [hq] at h2 ⊢
    exact ⟨rfl, h.loc h2 rfl (k01.q0.trans k2) hW3⟩
  · have h3 : decE q id g a now = 0 := by simpa using h3
    rw [h3]
    refine ⟨rfl, h.loc h2 ?_ (k01.q0.trans k2) hW3⟩
    unfold decQ
    split <;> rfl

end Go.Proofs.YtfacflbmlfbeeaaGreatDoor

/- Chapter 39, plain: texts in UTF-8: what code point stands first; a text's code points. No program in sight. -/
namespace Go.Proofs.YtfacflbmlfbeeaaGreatDoor
open Go.RowKit

/-- The number of bytes of an encoding that begins with c. -/
def lenU (c : Int) : Nat := if 240 ≤ c ∧ c ≤ 244 then 4 else if 224 ≤ c ∧ c ≤ 239 then 3 else if 194 ≤ c ∧ c ≤ 223 then 2 else if c ≤ 127 then 1 else 0
def conU (f : Int) (i : Nat) (c : Int) : Bool :=
  if i = 1 then (if f = 224 then decide (160 ≤ c) && decide (c ≤ 191) else if f = 237 then decide (128 ≤ c) && decide (c ≤ 159) else if f = 240 then decide (144 ≤ c) && decide (c ≤ 191) else if f = 244 then decide (128 ≤ c) && decide (c ≤ 143) else decide (128 ≤ c) && decide (c ≤ 191))
  else decide (128 ≤ c) && decide (c ≤ 191)
/-- Whether an encoding stands first. -/
def okU (s : ByteArray) : Prop := lenU (at8 s 0) ≠ 0 ∧ lenU (at8 s 0) ≤ s.size ∧ ∀ i, 1 ≤ i → i < lenU (at8 s 0) → conU (at8 s 0) i (at8 s i) = true
/-- The value of the first k bytes, of an encoding of n bytes. -/
def v0U (n : Nat) (c : Int) : Int := if n = 1 then c else if n = 2 then c - 192 else if n = 3 then c - 224 else c - 240
def valU (s : ByteArray) (n : Nat) : Nat → Int
  | 0 => 0
  | 1 => v0U n (at8 s 0)
  | k + 2 => 64 * valU s n (k + 1) + at8 s (k + 1) - 128
noncomputable def u8R (s : ByteArray) : Option (Int × Nat) := open Classical in if okU s then some (valU s (lenU (at8 s 0)) (lenU (at8 s 0)), lenU (at8 s 0)) else none
theorem u8R_pos {s : ByteArray} {r : Int} {n : Nat} (h : u8R s = some (r, n)) : 1 ≤ n ∧ n ≤ s.size := by
  unfold u8R at h
  split at h
  · rename_i hk
    cases h
    have := hk.1
    exact ⟨by omega, hk.2.1⟩
  · cases h
/-! ### The reference's test -/
end Go.Proofs.YtfacflbmlfbeeaaGreatDoor

/- The formulas of functions by the symbolic evaluator, and that each gives the call's contract. Written by a program (gen.py). No condition. -/
namespace Go.Proofs.YtfacflbmlfbeeaaGreatDoor
set_option maxRecDepth 100000
set_option linter.unusedVariables false

end Go.Proofs.YtfacflbmlfbeeaaGreatDoor

/- Chapter 39: the contracts of the functions of utf8: length, continues, measure, value, Decode. No condition but sizes. -/
namespace Go.Proofs.YtfacflbmlfbeeaaGreatDoor
open Go.RowKit

end Go.Proofs.YtfacflbmlfbeeaaGreatDoor

/- Chapter 39: the code points of a text; the contracts of utf8.Check, Valid, isControl and of the reference's First, All, Control. Texts that are not too long. -/
namespace Go.Proofs.YtfacflbmlfbeeaaGreatDoor
open Go.RowKit

/-- From an offset on come the code points l; b: up to the end. -/
inductive RN (s : ByteArray) : Nat → List Int → Bool → Prop
  | done {at_ : Nat} (h : s.size ≤ at_) : RN s at_ [] true
  | bad {at_ : Nat} (h : at_ < s.size) (hu : u8R (s.extract at_ s.size) = none) : RN s at_ [] false
  | step {at_ : Nat} {r : Int} {n : Nat} {l : List Int} {b : Bool} (h : at_ < s.size) (hu : u8R (s.extract at_ s.size) = some (r, n)) (hr : RN s (at_ + n) l b) : RN s at_ (r :: l) b
theorem ext_size (s : ByteArray) (a : Nat) : (s.extract a s.size).size = s.size - a := by rw [ByteArray.size_extract]; omega
theorem rn_ex (s : ByteArray) : ∀ (k a : Nat), s.size - a ≤ k → ∃ l b, RN s a l b ∧ l.length ≤ s.size - a
  | 0, a, h => ⟨[], true, .done (by omega), by simp⟩
  | k + 1, a, h => by
    by_cases ha : s.size ≤ a
    · exact ⟨[], true, .done ha, by simp⟩
    · cases hu : u8R (s.extract a s.size) with
      | none => exact ⟨[], false, .bad (by omega) hu, by simp⟩
      | some p =>
        obtain ⟨r, n⟩ := p
        have hn := u8R_pos hu
        rw [ext_size] at hn
        obtain ⟨l, b, h1, h2⟩ := rn_ex s k (a + n) (by omega)
        exact ⟨r :: l, b, .step (by omega) hu h1, by simp; omega⟩
noncomputable def rnL (s : ByteArray) : List Int := (rn_ex s s.size 0 (by omega)).choose
noncomputable def rnB (s : ByteArray) : Bool := (rn_ex s s.size 0 (by omega)).choose_spec.choose
def ctlB (r : Int) : Bool := decide (r ≤ 31) || decide (r ≥ 127) && decide (r ≤ 159) || r == 8232 || r == 8233
/-- Whether a text can be printed. -/
noncomputable def prtB (s : ByteArray) : Bool := rnB s && !(rnL s).any ctlB
/-! ### The reference -/
end Go.Proofs.YtfacflbmlfbeeaaGreatDoor

/- Chapter 39: the contracts of the reference's Begins, First, All. Texts that are not too long. -/
namespace Go.Proofs.YtfacflbmlfbeeaaGreatDoor
open Go.RowKit

end Go.Proofs.YtfacflbmlfbeeaaGreatDoor

/- Chapter 39: the contract of utf8.Printable, a range over a function. Texts that are not too long. -/
namespace Go.Proofs.YtfacflbmlfbeeaaGreatDoor
open Go.RowKit Go.Shelf

attribute [local go_sem] Oper.semAt_some

end Go.Proofs.YtfacflbmlfbeeaaGreatDoor

/- The formulas of functions by the symbolic evaluator, and that each gives the call's contract. Written by a program (gen.py). No condition. -/
namespace Go.Proofs.YtfacflbmlfbeeaaGreatDoor
set_option maxRecDepth 100000
set_option linter.unusedVariables false

def VC_get_ (b : Nat) (i : Nat → Int) (s : ByteArray) (w : World) (R : Ending → World → Prop) : Prop :=
 ∀ (n n_1 : Nat) (W : World),
 Loc w.heap.size
 [Blk.mk n_1 48
 [Value.int IntKind.u8 0, Value.int IntKind.u8 0, Value.int IntKind.u8 0, Value.int IntKind.u8 0,
 Value.int IntKind.u8 0, Value.int IntKind.u8 0, Value.int IntKind.u8 0, Value.int IntKind.u8 0,
 Value.int IntKind.u8 0, Value.int IntKind.u8 0, Value.int IntKind.u8 0, Value.int IntKind.u8 0,
 Value.int IntKind.u8 0, Value.int IntKind.u8 0, Value.int IntKind.u8 0, Value.int IntKind.u8 0,
 Value.int IntKind.u8 0, Value.int IntKind.u8 0, Value.int IntKind.u8 0, Value.int IntKind.u8 0,
 Value.int IntKind.u8 0, Value.int IntKind.u8 0, Value.int IntKind.u8 0, Value.int IntKind.u8 0,
 Value.int IntKind.u8 0, Value.int IntKind.u8 0, Value.int IntKind.u8 0, Value.int IntKind.u8 0,
 Value.int IntKind.u8 0, Value.int IntKind.u8 0, Value.int IntKind.u8 0, Value.int IntKind.u8 0,
 Value.string (ByteArray.mk #[]), Value.string (ByteArray.mk #[]), Value.int IntKind.i64 0,
 Value.int IntKind.i64 0, Value.int IntKind.u8 0, Value.int IntKind.u8 0, Value.int IntKind.u8 0,
 Value.int IntKind.u8 0, Value.int IntKind.u8 0, Value.int IntKind.u8 0, Value.int IntKind.u8 0,
 Value.int IntKind.u8 0, Value.int IntKind.u8 0, Value.int IntKind.u8 0, Value.int IntKind.u8 0,
 Value.int IntKind.u8 0, Value.int IntKind.u8 0, Value.int IntKind.u8 0, Value.int IntKind.u8 0,
 Value.int IntKind.u8 0, Value.int IntKind.i64 0, Value.string (ByteArray.mk #[])]
 2,
 Blk.mk n 32
 (arrI IntKind.u8 i 32 0)
 2]
 w W →
 ∃ (S : World → Prop),
 S W ∧
 ∃ (x : Option Nat),
 (∀ (w' : World), S w' → w'.cell? (Addr.mk b (0 + 4) none) = some (Value.map x)) ∧
 ∃ (f : Nat → Int),
 (∀ (w' : World),
 S w' →
 AtL w' n 0
 (arrI IntKind.u8 f 32 0)) ∧
 ∃ (f_1 : Nat → Int),
 ∃ (x_1 : ByteArray),
 ∃ (x_2 : ByteArray),
 ∃ (x_3 : Int),
 ∃ (x_4 : Int),
 ∃ (f_2 : Nat → Int),
 ∃ (x_5 : Int),
 ∃ (x_6 : ByteArray),
 ∃ (x_7 : Bool),
 ∃ (f_3 : Nat → Int),
 ∃ (x_8 : Int),
 ∃ (b : Bool),
 (∀ (w' : World),
 S w' →
 LookP Tryz.prog 96 (Value.map x)
 (Value.agg
 (arrI IntKind.u8 f 32 0 ++ [Value.string s]).toArray)
 true
 (Value.tuple
 #[Value.agg
 (arrI IntKind.u8 f_1 32 0 ++ ([Value.string x_1,
 Value.string x_2, Value.int IntKind.i64 x_3, Value.int IntKind.i64 x_4] ++ arrI IntKind.u8 f_2 16 0 ++ ([Value.int IntKind.i64 x_5, Value.string x_6, Value.bool x_7] ++ arrI IntKind.u8 f_3 16 0 ++ [Value.int IntKind.i64 x_8]))).toArray,
 Value.bool b])
 w') ∧
 ∀ (n_2 : Nat) (w1 : World),
 NewB W
 (Obj.cells
 #[Value.int IntKind.u8 0, Value.int IntKind.u8 0, Value.int IntKind.u8 0,
 Value.int IntKind.u8 0, Value.int IntKind.u8 0, Value.int IntKind.u8 0,
 Value.int IntKind.u8 0, Value.int IntKind.u8 0, Value.int IntKind.u8 0,
 Value.int IntKind.u8 0, Value.int IntKind.u8 0, Value.int IntKind.u8 0,
 Value.int IntKind.u8 0, Value.int IntKind.u8 0, Value.int IntKind.u8 0,
 Value.int IntKind.u8 0, Value.int IntKind.u8 0, Value.int IntKind.u8 0,
 Value.int IntKind.u8 0, Value.int IntKind.u8 0, Value.int IntKind.u8 0,
 Value.int IntKind.u8 0, Value.int IntKind.u8 0, Value.int IntKind.u8 0,
 Value.int IntKind.u8 0, Value.int IntKind.u8 0, Value.int IntKind.u8 0,
 Value.int IntKind.u8 0, Value.int IntKind.u8 0, Value.int IntKind.u8 0,
 Value.int IntKind.u8 0, Value.int IntKind.u8 0, Value.string (ByteArray.mk #[]),
 Value.string (ByteArray.mk #[]), Value.int IntKind.i64 0, Value.int IntKind.i64 0,
 Value.int IntKind.u8 0, Value.int IntKind.u8 0, Value.int IntKind.u8 0,
 Value.int IntKind.u8 0, Value.int IntKind.u8 0, Value.int IntKind.u8 0,
 Value.int IntKind.u8 0, Value.int IntKind.u8 0, Value.int IntKind.u8 0,
 Value.int IntKind.u8 0, Value.int IntKind.u8 0, Value.int IntKind.u8 0,
 Value.int IntKind.u8 0, Value.int IntKind.u8 0, Value.int IntKind.u8 0,
 Value.int IntKind.u8 0, Value.int IntKind.i64 0, Value.string (ByteArray.mk #[]),
 Value.bool false, Value.int IntKind.u8 0, Value.int IntKind.u8 0, Value.int IntKind.u8 0,
 Value.int IntKind.u8 0, Value.int IntKind.u8 0, Value.int IntKind.u8 0,
 Value.int IntKind.u8 0, Value.int IntKind.u8 0, Value.int IntKind.u8 0,
 Value.int IntKind.u8 0, Value.int IntKind.u8 0, Value.int IntKind.u8 0,
 Value.int IntKind.u8 0, Value.int IntKind.u8 0, Value.int IntKind.u8 0,
 Value.int IntKind.u8 0, Value.int IntKind.i64 0]
 107)
 n_2 w1 →
 S w1 ∧
 WrL w1 n_2 0 72 ∧
 ∀ (w1_1 : World),
 PutB w1 n_2 0
 (arrI IntKind.u8 f_1 32 0 ++ ([Value.string x_1,
 Value.string x_2, Value.int IntKind.i64 x_3, Value.int IntKind.i64 x_4] ++ arrI IntKind.u8 f_2 16 0 ++ ([Value.int IntKind.i64 x_5,
 Value.string x_6, Value.bool x_7] ++ arrI IntKind.u8 f_3 16 0 ++ [Value.int IntKind.i64 x_8])))
 w1_1 →
 KeptL [n_1, n] W w1_1 ∧
 ∃ (f : Nat → Int),
 ∃ (x : ByteArray),
 ∃ (x_9 : ByteArray),
 ∃ (x_10 : Int),
 ∃ (x_11 : Int),
 ∃ (f_4 : Nat → Int),
 ∃ (x_12 : Int),
 ∃ (x_13 : ByteArray),
 AtL w1_1 n_2 0
 (arrI IntKind.u8 f 32 0 ++ ([Value.string x,
 Value.string x_9, Value.int IntKind.i64 x_10, Value.int IntKind.i64 x_11] ++ arrI IntKind.u8 f_4 16 0 ++ [Value.int IntKind.i64 x_12, Value.string x_13])) ∧
 ∀ (W : World),
 Loc w.heap.size
 [Blk.mk n_1 48
 (arrI IntKind.u8 f 32 0 ++ ([Value.string x,
 Value.string x_9, Value.int IntKind.i64 x_10, Value.int IntKind.i64 x_11] ++ arrI IntKind.u8 f_4 16 0 ++ [Value.int IntKind.i64 x_12, Value.string x_13]))
 (wrM 0),
 Blk.mk n 32
 (arrI IntKind.u8 i 32 0)
 0]
 w1_1 W →
 R
 (Ending.returned
 (Value.tuple
 #[Value.agg
 (arrI IntKind.u8 f 32 0 ++ ([Value.string x,
 Value.string x_9, Value.int IntKind.i64 x_10, Value.int IntKind.i64 x_11] ++ arrI IntKind.u8 f_4 16 0 ++ [Value.int IntKind.i64 x_12, Value.string x_13])).toArray,
 Value.bool b]))
 W
theorem vc_get_ (b : Nat) (i : Nat → Int) (s : ByteArray) (w : World) (R : Ending → World → Prop) (h : VC_get_ b i s w R) : Calls Tryz.prog 21 ([Value.pointer
    (some { block := b, off := 0 }),
  Value.agg (arrI IntKind.u8 i 32 0).toArray, Value.string s] : List Value).toArray w R := by
  have e : execR2 { P := Tryz.prog, loops := [], pur := pur1, tails := [(3, 11)], joins := [], boxes := [] } Tryz.f21.results.toList R (Tryz.f21.body.getD .skip) (initF [Value.pointer
    (some { block := b, off := 0 }),
  Value.agg (arrI IntKind.u8 i 32 0).toArray,
  Value.string
    s] (Tryz.f21.ntmps - ([Value.pointer (some { block := b, off := 0 }), Value.agg (arrI IntKind.u8 i 32 0).toArray,
  Value.string s] : List Value).length)) w = VC_get_ b i s w R := by kernel_rfl
  have hb : Tryz.f21.body = some (Tryz.f21.body.getD .skip) := by kernel_rfl
  exact calls_of_exec2' (P := Tryz.prog) (fn := Tryz.f21) (c := Tryz.f21.body.getD .skip) (args := [Value.pointer
    (some { block := b, off := 0 }),
  Value.agg (arrI IntKind.u8 i 32 0).toArray, Value.string s]) (w := w) (R := R) pur1_ok Tryz.func21 hb e h

end Go.Proofs.YtfacflbmlfbeeaaGreatDoor

/- Chapter 39: the contracts of Reject, Get, Holder, Release. The library's variable MaxLen holds a number. -/
namespace Go.Proofs.YtfacflbmlfbeeaaGreatDoor
open Go.RowKit Go.Sort Go.Maps

/-! ### Reject -/
/-! ### Get, Holder -/
theorem get_any {w : World} {b mb eb : Nat} {q : Qu} (h : Mq w b mb eb q) (id : Nat → Int) (hid : BY id) (g : ByteArray) (hg : g.size ≤ 1073741824) :
    Calls Tryz.prog 21 #[.pointer (some ⟨b, 0, none⟩), .agg (arrI .u8 id 32 0).toArray, .string g] w fun e w' => e = .returned (.tuple #[sbV (q.en (idI id, g)).s, .bool (aget q.es (idI id, g)).isSome]) ∧ K0 w w' := by
  refine vc_get_ b id g w _ (fun n n1 W hW => ?_)
  have kW : K0 w W := hW.kk rfl
  have h2 := h.k0 kW
  have d1 := hW.cells 1 rfl
  generalize hX : q.en (idI id, g) = X
  refine ⟨fun wx => K0 W wx, .refl _ _, some eb, fun wx k => (h2.k0 k).cE, id, fun wx k => AtL_block (k.blk d1 (fun h => h)) rfl, X.s.id, X.s.g, X.s.tx, X.s.r, X.s.st, X.s.mo, X.s.de, X.s.rs, X.le, X.ho, X.si, (aget q.es (idI id, g)).isSome, fun wx k => by have := (h2.k0 k).lookE hid hg; rw [hX] at this; exact this, fun n4 w4 hn4 => ⟨hn4.kp _, WrL_block hn4.block (by show 0 + 72 ≤ 72; omega), fun w5 p5 => ?_⟩⟩
  have k5 : K0 W w5 := put_k0 (hn4.kp _) p5 hn4.ge
  have b4 : w5.heap[n4]? = some (.cells (enC X).toArray 107 (0, 0)) := p5.full hn4.block rfl
  exact ⟨.of_k0 k5, X.s.id, X.s.g, X.s.tx, X.s.r, X.s.st, X.s.mo, X.s.de, X.s.rs, AtL_block b4 rfl, fun W6 hW6 => ⟨rfl, hW6.k0 (kW.trans k5)⟩⟩
/-! ### Release -/
def relE (q : Qu) (id : Nat → Int) (g : ByteArray) (a : Nat → Int) (now : Int) : Int := if minB now = false then 2 else if (aget q.es (idI id, g)).isSome = false ∨ (q.en (idI id, g)).s.st ≠ 0 then 8 else if inE (q.en (idI id, g)) now = false ∨ auI (q.en (idI id, g)).ho ≠ auI a then 10 else 0
def relQ (q : Qu) (id : Nat → Int) (g : ByteArray) (a : Nat → Int) (now : Int) : Qu := if relE q id g a now = 0 then { q with es := aset q.es (idI id, g) ⟨(q.en (idI id, g)).s, false, fun _ => 0, 0⟩ } else q
end Go.Proofs.YtfacflbmlfbeeaaGreatDoor

/- Chapter 39: the contracts of Lapse, Forget. The library's variable MaxLen holds a number; lists are not too long. -/
namespace Go.Proofs.YtfacflbmlfbeeaaGreatDoor
open Go.RowKit Go.Sort Go.Maps

theorem Mq.not_own {w : World} {b mb eb : Nat} {q : Qu} (h : Mq w b mb eb q) {base : Nat} {e : TypeId} {size : Nat} {v : Value} {n : Nat} {xs : List Value} (ho : w.ownsRow base e size v n xs) (he : (98 == e) = false) : ∀ k, v.ownBlock = some k → ¬ QB b mb eb k := fun k hk hq => by
  obtain ⟨c, hc⟩ := own_type ho hk
  rcases hq with rfl | rfl | rfl
  · exact own_not ho h.st he hk
  · obtain ⟨es, c', hb, _⟩ := h.mm.blk; rw [hb] at hc; cases hc
  · obtain ⟨es, c', hb, _⟩ := h.me.blk; rw [hb] at hc; cases hc
/-! ### Lapse -/
def lapP (last : Int) (x : En) : Bool := x.s.st == 0 && decide (x.s.r ≤ last)
def fin3 (now : Int) (x : Sb) : Sb := finS39 x (fun _ => 0) now 3 ⟨#[]⟩
/-! ### Forget -/
end Go.Proofs.YtfacflbmlfbeeaaGreatDoor

/- The formulas of functions by the symbolic evaluator, and that each gives the call's contract. Written by a program (gen.py). No condition. -/
namespace Go.Proofs.YtfacflbmlfbeeaaGreatDoor
set_option maxRecDepth 100000
set_option linter.unusedVariables false

end Go.Proofs.YtfacflbmlfbeeaaGreatDoor

/- Chapter 39: the reference's comparisons, minute, holder, command, same. Bytes are bytes; names are not too long. -/
namespace Go.Proofs.YtfacflbmlfbeeaaGreatDoor
open Go.RowKit Go.Sort Go.Maps

end Go.Proofs.YtfacflbmlfbeeaaGreatDoor

/- Chapter 39: the reference's queue in the memory; the contracts of its moderators, is, find, list. Bytes are bytes; lists are not too long. -/
namespace Go.Proofs.YtfacflbmlfbeeaaGreatDoor
open Go.RowKit Go.Sort Go.Maps

structure Gx where
  g : ByteArray
  x : MX
def gxC (y : Gx) : List Value := [.string y.g, mxV y.x]
/-- The reference's queue. -/
structure Mo where
  room : Int
  days : Int
  gs : List Gx
  es : List En
/-- Where its rows lie. -/
structure Pl where
  gp : Option Addr
  gc : Nat
  ep : Option Addr
  ec : Nat
/-- A row lies in a block of authors. -/
def TyA (w : World) (p : Option Addr) : Prop := ∀ g o, p = some ⟨g, o, none⟩ → ∃ c f, w.heap[g]? = some (.cells c 45 f)
structure MoR (w : World) (B m : Nat) (M : Mo) (P : Pl) : Prop where
  st : w.heap[m]? = some (.cells #[.int .i64 M.room, .int .i64 M.days, .slice P.gp M.gs.length P.gc, .slice P.ep M.es.length P.ec] 57 (0, 0))
  ge : B ≤ m
  gw : w.ownsRow B 93 2 (.slice P.gp M.gs.length P.gc) M.gs.length (M.gs.flatMap gxC)
  ew : w.ownsRow B 91 72 (.slice P.ep M.es.length P.ec) M.es.length (M.es.flatMap enC)
  ms : ∀ y ∈ M.gs, RowA auC 16 w y.x.p y.x.l ∧ TyA w y.x.p
/-- What the reference may write. -/
def MF (w : World) (B k : Nat) : Prop := B ≤ k ∧ ∃ c t f, w.heap[k]? = some (.cells c t f) ∧ (t = 57 ∨ t = 93 ∨ t = 91)
theorem TyA.kp {M : Nat → Prop} {w w' : World} {p : Option Addr} (h : TyA w p) (hk : Kp M w w') (hm : ∀ k c f, w.heap[k]? = some (.cells c 45 f) → ¬ M k) : TyA w' p := fun g o e => by
  obtain ⟨c, f, hc⟩ := h g o e
  exact ⟨c, f, hk.blk hc (hm g c f hc)⟩
theorem TyA.k0 {w w' : World} {p : Option Addr} (h : TyA w p) (hk : K0 w w') : TyA w' p := h.kp hk (fun _ _ _ _ h => h)
theorem TyA.own {w : World} {base L n c : Nat} {p : Option Addr} {xs : List Value} (h : w.ownsRow base 45 L (.slice p n c) n xs) : TyA w p := fun g o e => by
  subst e
  obtain ⟨c, hc⟩ := own_type h (k := g) rfl
  exact ⟨c, _, hc⟩
theorem TyA.none (w : World) : TyA w none := fun _ _ h => by cases h
theorem mf_no {w : World} {B k : Nat} {c : Array Value} {t : TypeId} {f : Nat × Nat} (h : w.heap[k]? = some (.cells c t f)) (ht : (t == 57 || t == 93 || t == 91) = false) : ¬ MF w B k := fun ⟨_, c', t', f', h', ht'⟩ => by
  rw [h] at h'
  cases h'
  rcases ht' with e | e | e <;> rw [e] at ht <;> exact absurd ht (by decide)
theorem mf_map {w : World} {B k cl : Nat} {es : Array MapEntry} (h : w.heap[k]? = some (.map es cl)) : ¬ MF w B k := fun ⟨_, c', t', f', h', _⟩ => by rw [h] at h'; cases h'
theorem RowA.mf {w w' : World} {B : Nat} {p : Option Addr} {l : List (Nat → Int)} (h : RowA auC 16 w p l) (ht : TyA w p) (hk : Kp (MF w B) w w') : RowA auC 16 w' p l := fun k y hy => by
  obtain ⟨b, o, h1, h2⟩ := h k y hy
  obtain ⟨c, f, hc⟩ := ht b o h1
  exact ⟨b, o, h1, ⟨At_of _ _ fun j u hu => hk.cell' (h2.cell hu) (mf_no hc (by decide))⟩⟩
theorem TyA.mf {w w' : World} {B : Nat} {p : Option Addr} (ht : TyA w p) (hk : Kp (MF w B) w w') : TyA w' p := ht.kp hk (fun _ _ _ hc => mf_no hc (by decide))
/-- The queue's rows lie in blocks of authors. -/
def QSep (w : World) (q : Qu) : Prop := ∀ g x, aget q.ms g = some x → TyA w x.p
section
variable {w w' : World} {b mb eb B m : Nat} {q : Qu} {M : Mo} {P : Pl}
theorem QSep.k0 (h : QSep w q) (hk : K0 w w') : QSep w' q := fun g x hx => (h g x hx).k0 hk
theorem Mq.not_ty (h : Mq w b mb eb q) {k : Nat} {c : Array Value} {t : TypeId} {f : Nat × Nat} (hc : w.heap[k]? = some (.cells c t f)) (ht : (t == 98) = false) : ¬ QB b mb eb k := fun e => by
  rcases e with rfl | rfl | rfl
  · rw [h.st] at hc; cases hc; exact absurd ht (by decide)
  · obtain ⟨es, c', hb, _⟩ := h.mm.blk; rw [hb] at hc; cases hc
  · obtain ⟨es, c', hb, _⟩ := h.me.blk; rw [hb] at hc; cases hc
theorem QSep.qb (h : QSep w q) (hq : Mq w b mb eb q) (hk : Kp (QB b mb eb) w w') : QSep w' q := fun g x hx => (h g x hx).kp hk (fun _ _ _ hc => hq.not_ty hc (by decide))
theorem Mq.mf (h : Mq w b mb eb q) (hs : QSep w q) (hk : Kp (MF w B) w w') : Mq w' b mb eb q := by
  have nm : ¬ MF w B mb := by obtain ⟨es, c', hb, _⟩ := h.mm.blk; exact mf_map hb
  have ne : ¬ MF w B eb := by obtain ⟨es, c', hb, _⟩ := h.me.blk; exact mf_map hb
  exact ⟨hk.blk h.st (mf_no h.st (by decide)), h.mm.kp hk nm, h.me.kp hk ne, fun g x hx => (h.row g x hx).mf (hs g x hx) hk, h.ne, h.nz⟩
theorem QSep.mf (hs : QSep w q) (hk : Kp (MF w B) w w') : QSep w' q := fun g x hx => (hs g x hx).mf hk
theorem MoR.k0 (h : MoR w B m M P) (hk : K0 w w') : MoR w' B m M P :=
  ⟨hk.blk h.st (fun h => h), h.ge, owns_kp h.gw hk (fun _ _ h => h), owns_kp h.ew hk (fun _ _ h => h), fun y hy => ⟨(h.ms y hy).1.k0 hk, (h.ms y hy).2.k0 hk⟩⟩
theorem MoR.qb (h : MoR w B m M P) (hq : Mq w b mb eb q) (hk : Kp (QB b mb eb) w w') : MoR w' B m M P :=
  ⟨hk.blk h.st (hq.not_ty h.st (by decide)), h.ge, owns_kp h.gw hk (hq.not_own h.gw (by decide)), owns_kp h.ew hk (hq.not_own h.ew (by decide)), fun y hy => ⟨(h.ms y hy).1.kpU auC_u hk hq.nu, (h.ms y hy).2.kp hk (fun _ _ _ hc => hq.not_ty hc (by decide))⟩⟩
theorem MoR.mfe (h : MoR w B m M P) {k : Nat} (hk : (Value.slice P.ep M.es.length P.ec).ownBlock = some k) : MF w B k := by
  obtain ⟨c, hc⟩ := own_type h.ew hk
  exact ⟨own_ge h.ew hk, _, _, _, hc, .inr (.inr rfl)⟩
theorem MoR.cR (h : MoR w B m M P) : w.cell? ⟨m, 0, none⟩ = some (.int .i64 M.room) := cell_at h.st rfl
theorem MoR.cE (h : MoR w B m M P) : w.cell? ⟨m, 0 + 3, none⟩ = some (.slice P.ep M.es.length P.ec) := cell_at h.st rfl
end
def Mo.md (M : Mo) (g : ByteArray) : MX := ((M.gs.find? fun y => decide (y.g = g)).map (·.x)).getD mxz
theorem MoR.rowM {w : World} {B m : Nat} {M : Mo} {P : Pl} (h : MoR w B m M P) (g : ByteArray) : RowA auC 16 w (M.md g).p (M.md g).l := by
  unfold Mo.md
  cases hf : M.gs.find? fun y => decide (y.g = g) with
  | none => exact RowA.nil
  | some y => exact (h.ms y (List.mem_of_find?_eq_some hf)).1
/-- The submissions that the reference lists. -/
def Mo.ls (M : Mo) (g : ByteArray) (st : Int) : List Sb := (M.es.filter (lsP g st)).map (·.s)
end Go.Proofs.YtfacflbmlfbeeaaGreatDoor

/- Rows that a slice owns: a part of an element is written, elements are appended. Generic: no program, no condition. -/
namespace Go.Proofs.YtfacflbmlfbeeaaGreatDoor
open Go.RowKit Go.Maps

/-- A part of an element of an own row is written. -/
theorem own_part {α : Type} {f : α → List Value} {L : Nat} {w w1 : World} {base n c g k j : Nat} {e : TypeId} {l : List α} {y y' : α} {vs : List Value} (h : w.ownsRow base e L (.slice (some ⟨g, 0, none⟩) n c) n (l.flatMap f)) (hn : n = l.length) (hl : ∀ y, (f y).length = L) (h0 : 0 < L) (hk : l[k]? = some y) (hj : j + vs.length ≤ L) (hy : f y' = putL (f y) j vs) (hp : PutB w g (0 + k * L + j) vs w1) :
    w1.ownsRow base e L (.slice (some ⟨g, 0, none⟩) n c) n ((l.set k y').flatMap f) := by
  subst hn
  have hkl : k < l.length := (List.getElem?_eq_some_iff.1 hk).1
  have hlen := h.1
  rcases h.2 with ⟨hv, _⟩ | ⟨g', cap, cur, hv, hb, hg, h4, h5, h6, h7⟩
  · simp at hv
  simp only [Value.slice.injEq, true_and, Option.some.injEq, Addr.mk.injEq, and_true] at hv
  obtain ⟨rfl, rfl⟩ := hv
  have hm : (k + 1) * L ≤ l.length * L := Nat.mul_le_mul_right _ hkl
  have hm2 : l.length * L ≤ c * L := Nat.mul_le_mul_right _ h4
  rw [Nat.succ_mul] at hm
  have hfl : ((l.set k y').flatMap f).length = l.length * L := by rw [len_flat f L _ (fun z _ => hl z), List.length_set]
  refine ⟨hfl, .inr ⟨g, c, _, rfl, hb, hp.block hg, h4, h5, by simp [putL_len, h6], ?_⟩⟩
  show (putL cur.toList (0 + k * L + j) vs).take (l.length * L) = _
  apply List.ext_getElem?
  intro t
  rw [List.getElem?_take]
  rcases Nat.lt_or_ge t (l.length * L) with ht | ht
  · rw [if_pos ht, putL_get _ _ _ _ (by simp [h6]; omega)]
    have hdiv : t / L < l.length := Nat.div_lt_of_lt_mul (by rw [Nat.mul_comm]; exact ht)
    have hmod : t % L < L := Nat.mod_lt _ h0
    have hj2 : t / L * L + t % L = t := by rw [Nat.mul_comm]; exact Nat.div_add_mod t L
    obtain ⟨z, hz⟩ : ∃ z, l[t / L]? = some z := ⟨_, List.getElem?_eq_getElem hdiv⟩
    have h2 := flat_get f L l (t / L) z (t % L) (fun z _ => hl z) hz hmod
    rw [hj2] at h2
    have hcur : cur.toList[t]? = (f z)[t % L]? := by rw [← h2, ← h7, List.getElem?_take, if_pos ht]
    by_cases hk1 : t / L = k
    · subst hk1
      rw [hk] at hz
      cases hz
      have h1 := flat_get f L (l.set (t / L) y') (t / L) y' (t % L) (fun z _ => hl z) (by rw [List.getElem?_set]; simp [hkl]) hmod
      rw [hj2] at h1
      rw [h1, hy, putL_get _ _ _ _ (by rw [hl y]; exact hj), hcur]
      by_cases hin : j ≤ t % L ∧ t % L < j + vs.length
      · rw [if_pos hin, if_pos (by omega)]
        congr 1
        omega
      · rw [if_neg hin, if_neg (by omega)]
    · have hnin : ¬ (0 + k * L + j ≤ t ∧ t < 0 + k * L + j + vs.length) := by
        intro ⟨h3, h4⟩
        apply hk1
        have h5 : k ≤ t / L := (Nat.le_div_iff_mul_le h0).2 (by omega)
        have h6 : t / L < k + 1 := (Nat.div_lt_iff_lt_mul h0).2 (by rw [Nat.succ_mul]; omega)
        omega
      have h1 := flat_get f L (l.set k y') (t / L) z (t % L) (fun z _ => hl z) (by rw [List.getElem?_set, if_neg (fun e => hk1 e.symm)]; exact hz) hmod
      rw [hj2] at h1
      rw [if_neg hnin, h1, hcur]
  · rw [if_neg (by omega), List.getElem?_eq_none (by omega)]
end Go.Proofs.YtfacflbmlfbeeaaGreatDoor

/- The formulas of functions by the symbolic evaluator, and that each gives the call's contract. Written by a program (gen.py). No condition. -/
namespace Go.Proofs.YtfacflbmlfbeeaaGreatDoor
set_option maxRecDepth 100000
set_option linter.unusedVariables false

end Go.Proofs.YtfacflbmlfbeeaaGreatDoor

/- Chapter 39: the contract of the reference's set. Printed by mkxset39.py. Bytes are bytes; lists are not too long. -/
namespace Go.Proofs.YtfacflbmlfbeeaaGreatDoor
open Go.RowKit Go.Sort Go.Maps

/-- A group's moderators are set. -/
def gset : List Gx → ByteArray → MX → List Gx
  | [], g, X => [⟨g, X⟩]
  | y :: r, g, X => if y.g = g then ⟨g, X⟩ :: r else y :: gset r g X
end Go.Proofs.YtfacflbmlfbeeaaGreatDoor

/- The formulas of functions by the symbolic evaluator, and that each gives the call's contract. Written by a program (gen.py). No condition. -/
namespace Go.Proofs.YtfacflbmlfbeeaaGreatDoor
set_option maxRecDepth 100000
set_option linter.unusedVariables false

end Go.Proofs.YtfacflbmlfbeeaaGreatDoor

/- Chapter 39: the contracts of the reference's end, release, claim. Bytes are bytes; lists are not too long. -/
namespace Go.Proofs.YtfacflbmlfbeeaaGreatDoor
open Go.RowKit Go.Sort Go.Maps

theorem RowA.ty {w w' : World} {N : Nat → Prop} {p : Option Addr} {l : List (Nat → Int)} (h : RowA auC 16 w p l) (ht : TyA w p) (hk : Kp N w w') (hm : ∀ k c f, w.heap[k]? = some (.cells c 45 f) → ¬ N k) : RowA auC 16 w' p l := fun k y hy => by
  obtain ⟨b, o, h1, h2⟩ := h k y hy
  obtain ⟨c, f, hc⟩ := ht b o h1
  exact ⟨b, o, h1, ⟨At_of _ _ fun j u hu => hk.cell' (h2.cell hu) (hm b c f hc)⟩⟩
section
variable {w w1 : World} {B m : Nat} {M : Mo} {P : Pl}
/-- Blocks of other types are written. -/
theorem MoR.off (h : MoR w B m M P) {N : Nat → Prop} {t : TypeId} (hk : Kp N w w1) (hN : ∀ k, N k → ∃ c f, w.heap[k]? = some (.cells c t f)) (ht : (t == 57 || t == 93 || t == 91 || t == 45) = false) : MoR w1 B m M P := by
  have no : ∀ {k : Nat} {c : Array Value} {t' : TypeId} {f : Nat × Nat}, w.heap[k]? = some (.cells c t' f) → (t == t') = false → ¬ N k := fun hc hne hn => by
    obtain ⟨c', f', hc'⟩ := hN _ hn
    rw [hc] at hc'
    cases hc'
    simp at hne
  have tf : (t == 57) = false ∧ (t == 93) = false ∧ (t == 91) = false ∧ (t == 45) = false := by
    simp only [Bool.or_eq_false_iff] at ht
    exact ⟨ht.1.1.1, ht.1.1.2, ht.1.2, ht.2⟩
  refine ⟨hk.blk h.st (no h.st tf.1), h.ge, owns_kp h.gw hk (fun k hk' => ?_), owns_kp h.ew hk (fun k hk' => ?_), fun y hy => ⟨(h.ms y hy).1.ty (h.ms y hy).2 hk (fun k c f hc => no hc tf.2.2.2), (h.ms y hy).2.kp hk (fun k c f hc => no hc tf.2.2.2)⟩⟩
  · obtain ⟨c, hc⟩ := own_type h.gw hk'
    exact no hc tf.2.1
  · obtain ⟨c, hc⟩ := own_type h.ew hk'
    exact no hc tf.2.2.1
/-- A part of an entry is written. -/
theorem MoR.part (h : MoR w B m M P) {i g j : Nat} {y y' : En} {vs : List Value} (hy : M.es[i]? = some y) (hp : P.ep = some ⟨g, 0, none⟩) (hj : j + vs.length ≤ 72) (hyy : enC y' = putL (enC y) j vs) (hput : PutB w g (0 + i * 72 + j) vs w1) :
    MoR w1 B m { M with es := M.es.set i y' } P ∧ Kp (MF w B) w w1 := by
  have hg : (Value.slice P.ep M.es.length P.ec).ownBlock = some g := by rw [hp]; rfl
  have hmf : Kp (MF w B) w w1 := hput.kp.mono fun k _ e => by have e : k = g := e; rw [e]; exact h.mfe hg
  obtain ⟨gc, hgc⟩ := own_type h.ew hg
  have hew := h.ew
  rw [hp] at hew
  have h2 := own_part (f := enC) (y := y) (y' := y') hew rfl enC_length (by decide) hy hj hyy hput
  have hl : (M.es.set i y').length = M.es.length := List.length_set
  refine ⟨⟨?_, h.ge, ?_, ?_, fun z hz => ⟨(h.ms z hz).1.mf (h.ms z hz).2 hmf, (h.ms z hz).2.mf hmf⟩⟩, hmf⟩
  · rw [hl]
    exact hput.blk h.st (fun e => by have h3 := h.st; rw [e, hgc] at h3; cases h3)
  · exact owns_kp h.gw hput.kp (fun k hk e => by
      have e : k = g := e
      subst e
      exact own_not h.gw hgc (by decide) hk)
  · rw [hl, hp]; exact h2
end
end Go.Proofs.YtfacflbmlfbeeaaGreatDoor

/- Chapter 39: the contracts of the reference's release, claim. Bytes are bytes; lists are not too long. -/
namespace Go.Proofs.YtfacflbmlfbeeaaGreatDoor
open Go.RowKit Go.Sort Go.Maps

/-! ### The reference's queue, plain -/
def Mo.fd (M : Mo) (k : Ky) : Option En := M.es.find? fun y => decide (y.s.ky = k)
def Mo.up (M : Mo) (k : Ky) (f : En → En) : Mo := { M with es := M.es.map fun y => if y.s.ky = k then f y else y }
/-- Keys of entries differ. -/
def DisK (es : List En) : Prop := es.Pairwise fun x y => x.s.ky ≠ y.s.ky
theorem dis_fd : ∀ {es : List En} {i : Nat} {y : En} {k : Ky}, DisK es → es[i]? = some y → y.s.ky = k → es.find? (fun y => decide (y.s.ky = k)) = some y
  | [], i, y, k, _, h, _ => by simp at h
  | a :: es, 0, y, k, hd, h, hk => by
    simp only [List.getElem?_cons_zero, Option.some.injEq] at h
    subst h
    rw [List.find?_cons, hk]; simp
  | a :: es, i + 1, y, k, hd, h, hk => by
    have h : es[i]? = some y := by simpa using h
    have hd' := List.pairwise_cons.1 hd
    have hne : a.s.ky ≠ k := by rw [← hk]; exact hd'.1 y (List.mem_of_getElem? h)
    rw [List.find?_cons, show decide (a.s.ky = k) = false from decide_eq_false hne]
    exact dis_fd hd'.2 h hk
/-- The reference's queue is as it should be. -/
structure Mo.OK (M : Mo) : Prop where
  days : 1 ≤ M.days ∧ M.days ≤ 365
  el : M.es.length ≤ 100000
  gl : M.gs.length ≤ 100000
  es : ∀ y ∈ M.es, y.OK ∧ y.s.g.size ≤ 1000
  dis : DisK M.es
  gs : ∀ y ∈ M.gs, (∀ z ∈ y.x.l, BY z ∧ NZ 16 z) ∧ y.x.l.length ≤ 8
theorem Mo.OK.md {M : Mo} (h : M.OK) (g : ByteArray) : (∀ z ∈ (M.md g).l, BY z) ∧ (M.md g).l.length ≤ 1000000 := by
  unfold Mo.md
  cases hf : M.gs.find? fun y => decide (y.g = g) with
  | none => exact ⟨(fun z hz => by cases hz), by decide⟩
  | some y =>
    have := h.gs y (List.mem_of_find?_eq_some hf)
    exact ⟨fun z hz => (this.1 z hz).1, by show y.x.l.length ≤ _; omega⟩
/-! ### release -/
def xrlE (M : Mo) (k : Ky) (a : Nat → Int) (now : Int) : Int := if minB now = false then 2 else match M.fd k with
  | none => 8
  | some y => if y.s.st ≠ 0 then 8 else if inE y now = false ∨ auI y.ho ≠ auI a then 10 else 0
def xrlM (M : Mo) (k : Ky) (a : Nat → Int) (now : Int) : Mo := if xrlE M k a now = 0 then M.up k (fun y => plainE y.s) else M
/-! ### claim -/
def xclE (M : Mo) (g : ByteArray) (a : Nat → Int) (now : Int) : Int := if minB now = false then 2 else if isMB (M.md g) a = false then 20 else match M.es.find? (clP g (auI a) now) with
  | none => 8
  | some _ => 0
def xclS (M : Mo) (g : ByteArray) (a : Nat → Int) (now : Int) : Sb := if xclE M g a now = 0 then ((M.es.find? (clP g (auI a) now)).getD enz).s else sbz
def xclM (M : Mo) (g : ByteArray) (a : Nat → Int) (now : Int) : Mo := if xclE M g a now = 0 then M.up (xclS M g a now).ky (fun y => ⟨y.s, true, a, now⟩) else M
end Go.Proofs.YtfacflbmlfbeeaaGreatDoor

/- Chapter 39: the contracts of the reference's lapse, forget. Bytes are bytes; lists are not too long. -/
namespace Go.Proofs.YtfacflbmlfbeeaaGreatDoor
open Go.RowKit Go.Sort Go.Maps

/-! ### lapse -/
def lpF (last now : Int) (x : En) : En := if lapP last x = true then plainE (fin3 now x.s) else x
def xlpM (M : Mo) (now : Int) : Mo := if minB now = true then { M with es := M.es.map (lpF (now - M.days * 1440) now) } else M
/-! ### forget -/
def kpP (bf : Int) (x : En) : Bool := x.s.st == 0 || decide (x.s.de ≥ bf)
end Go.Proofs.YtfacflbmlfbeeaaGreatDoor

/- Chapter 39, plain: the module's queue and the reference's say the same. No program in sight but in the definitions. -/
namespace Go.Proofs.YtfacflbmlfbeeaaGreatDoor
open Go.RowKit Go.Sort Go.Maps

/-! ### A name is known by its parts -/
/-! ### Lists with different keys -/
theorem perm_uniq39 {α : Type} {R : α → α → Prop} : ∀ {l1 l2 : List α}, l1.Perm l2 → l1.Pairwise R → l2.Pairwise R → (∀ a ∈ l1, ∀ b ∈ l1, R a b → R b a → a = b) → l1 = l2
  | [], l2, hp, _, _, _ => (List.nil_perm.1 hp).symm
  | a :: r, [], hp, _, _, _ => by have := hp.length_eq; simp at this
  | a :: r, b :: s, hp, h1, h2, anti => by
    have hab : a = b := Classical.byContradiction fun hne => by
      have h3 : a ∈ s := by
        rcases List.mem_cons.1 (hp.subset List.mem_cons_self) with h | h
        · exact absurd h hne
        · exact h
      have h4 : b ∈ r := by
        rcases List.mem_cons.1 (hp.symm.subset List.mem_cons_self) with h | h
        · exact absurd h.symm hne
        · exact h
      exact hne (anti a List.mem_cons_self b (List.mem_cons_of_mem _ h4) ((List.pairwise_cons.1 h1).1 b h4) ((List.pairwise_cons.1 h2).1 a h3))
    subst hab
    rw [perm_uniq39 (List.Perm.cons_inv hp) (List.pairwise_cons.1 h1).2 (List.pairwise_cons.1 h2).2 fun x hx y hy => anti x (List.mem_cons_of_mem _ hx) y (List.mem_cons_of_mem _ hy)]
def fdL (es : List En) (k : Ky) : Option En := es.find? fun y => decide (y.s.ky = k)
theorem fd_iff {es : List En} (hd : DisK es) {k : Ky} {e : En} : fdL es k = some e ↔ e ∈ es ∧ e.s.ky = k := by
  constructor
  · intro h
    exact ⟨List.mem_of_find?_eq_some h, by simpa using List.find?_some h⟩
  · rintro ⟨hm, hk⟩
    obtain ⟨i, hi⟩ := List.mem_iff_getElem?.1 hm
    exact dis_fd hd hi hk
theorem ag_iff {β : Type} {l : List (Ky × β)} (hd : l.Pairwise fun p q => p.1 ≠ q.1) {k : Ky} {e : β} : aget l k = some e ↔ (k, e) ∈ l := ⟨aget_mem, aget_at hd⟩
theorem opt_ext {α : Type} {a b : Option α} (h : ∀ e, a = some e ↔ b = some e) : a = b := by
  cases a with
  | none => cases b with
    | none => rfl
    | some y => exact ((h y).2 rfl)
  | some x => exact ((h x).1 rfl).symm
theorem ag_perm {l m : List (Ky × En)} (hl : l.Pairwise fun p q => p.1 ≠ q.1) (hm : m.Pairwise fun p q => p.1 ≠ q.1) (h : ∀ k, aget l k = aget m k) : l.Perm m := by
  have n1 : l.Nodup := hl.imp fun h e => h (by rw [e])
  have n2 : m.Nodup := hm.imp fun h e => h (by rw [e])
  refine (List.perm_ext_iff_of_nodup n1 n2).2 fun ⟨k, e⟩ => ?_
  rw [← ag_iff hl, ← ag_iff hm, h]
def prL (es : List En) : List (Ky × En) := es.map fun x => (x.s.ky, x)
theorem pr_dis {es : List En} (h : DisK es) : (prL es).Pairwise fun p q => p.1 ≠ q.1 := List.pairwise_map.2 h
theorem pr_get {es : List En} (h : DisK es) (k : Ky) : aget (prL es) k = fdL es k := opt_ext fun e => by
  rw [ag_iff (pr_dis h), fd_iff h]
  unfold prL
  constructor
  · intro hm
    obtain ⟨x, hx, e1⟩ := List.mem_map.1 hm
    cases e1
    exact ⟨hx, rfl⟩
  · rintro ⟨hx, rfl⟩
    exact List.mem_map.2 ⟨e, hx, rfl⟩

theorem pw_get {α : Type} {R : α → α → Prop} {l : List α} (h : l.Pairwise R) {i j : Nat} {x y : α} (hx : l[i]? = some x) (hy : l[j]? = some y) (hij : i < j) : R x y := by
  obtain ⟨hi, rfl⟩ := List.getElem?_eq_some_iff.1 hx
  obtain ⟨hj, rfl⟩ := List.getElem?_eq_some_iff.1 hy
  exact List.pairwise_iff_getElem.1 h i j hi hj hij

/-! ### The two queues -/
structure Rq (n : Nat) (q : Qu) (M : Mo) : Prop where
  qo : q.OK
  room : M.room = q.room
  days : M.days = q.days
  qd : q.es.Pairwise fun p r => p.1 ≠ r.1
  dis : DisK M.es
  fd : ∀ k, fdL M.es k = aget q.es k
  srt : M.es.Pairwise fun x y => cfM x.s y.s < 0
  ms : ∀ g, (q.md g).l = (M.md g).l
  gs : ∀ y ∈ M.gs, (∀ z ∈ y.x.l, BY z ∧ NZ 16 z) ∧ y.x.l.length ≤ 8
  gl : M.gs.length ≤ n
  el : M.es.length ≤ n
  le : ∀ x ∈ M.es, x.le = true → x.s.st = 0
theorem Rq.mono {n m : Nat} {q : Qu} {M : Mo} (h : Rq n q M) (hnm : n ≤ m) : Rq m q M := { h with gl := Nat.le_trans h.gl hnm, el := Nat.le_trans h.el hnm }
theorem Rq.perm {n : Nat} {q : Qu} {M : Mo} (h : Rq n q M) : q.es.Perm (prL M.es) := ag_perm h.qd (pr_dis h.dis) fun k => by rw [pr_get h.dis, h.fd]
theorem Rq.ql {n : Nat} {q : Qu} {M : Mo} (h : Rq n q M) : q.es.length ≤ n := by have := h.perm.length_eq; unfold prL at this; rw [List.length_map] at this; have := h.el; omega
theorem Rq.get {n : Nat} {q : Qu} {M : Mo} (h : Rq n q M) {x : En} (hx : x ∈ M.es) : aget q.es x.s.ky = some x := by rw [← h.fd, fd_iff h.dis]; exact ⟨hx, rfl⟩
theorem Rq.mo {n : Nat} {q : Qu} {M : Mo} (h : Rq n q M) (hn : n ≤ 100000) : M.OK where
  days := by rw [h.days]; exact h.qo.days
  el := Nat.le_trans h.el hn
  gl := Nat.le_trans h.gl hn
  es := fun y hy => by
    have := h.qo.es _ _ (h.get hy)
    exact ⟨this.1, Nat.le_trans (gnE_sz39 this.2.2.1) (by omega)⟩
  dis := h.dis
  gs := h.gs
theorem Rq.sel {n : Nat} {q : Qu} {M : Mo} (h : Rq n q M) (P : En → Bool) : (selE P q.es).Perm ((M.es.filter P).map (·.s)) := by
  unfold selE
  have h1 := (h.perm.filter fun p => P p.2).map (·.2.s)
  have e : ((prL M.es).filter fun p => P p.2).map (·.2.s) = (M.es.filter P).map (·.s) := by
    unfold prL
    rw [List.filter_map, List.map_map]
    rfl
  rw [e] at h1
  exact h1
theorem srt_tot {es : List En} (h : es.Pairwise fun x y => cfM x.s y.s < 0) {x y : En} (hx : x ∈ es) (hy : y ∈ es) (h1 : ¬ cfM x.s y.s < 0) (h2 : ¬ cfM y.s x.s < 0) : x = y := by
  obtain ⟨i, hi⟩ := List.mem_iff_getElem?.1 hx
  obtain ⟨j, hj⟩ := List.mem_iff_getElem?.1 hy
  rcases Nat.lt_trichotomy i j with hl | hl | hl
  · exact absurd (pw_get h hi hj hl) h1
  · subst hl; rw [hi] at hj; cases hj; rfl
  · exact absurd (pw_get h hj hi hl) h2
theorem Rq.uniq {n : Nat} {q : Qu} {M : Mo} (h : Rq n q M) {P : En → Bool} {l : List Sb} (hp : l.Perm (selE P q.es)) (hs : l.Pairwise fun x y => ¬ cfM y x < 0) : l = (M.es.filter P).map (·.s) := by
  have hp2 := hp.trans (h.sel P)
  have hsub : ∀ a ∈ l, ∃ x ∈ M.es, x.s = a := fun a ha => by
    obtain ⟨x, hx, e⟩ := List.mem_map.1 (hp2.subset ha)
    exact ⟨x, (List.mem_filter.1 hx).1, e⟩
  refine perm_uniq39 (R := fun x y => ¬ cfM y x < 0) hp2 hs ?_ ?_
  · refine List.pairwise_map.2 ((h.srt.sublist List.filter_sublist).imp fun {a b} hab hc => ?_)
    have := cfM_ord.anti a.s b.s
    omega
  · intro a ha b hb h1 h2
    obtain ⟨x, hx, rfl⟩ := hsub a ha
    obtain ⟨y, hy, rfl⟩ := hsub b hb
    rw [srt_tot h.srt hx hy h2 h1]
theorem Rq.any {n : Nat} {q : Qu} {M : Mo} (h : Rq n q M) {x y : En} (hx : x ∈ M.es) (hy : y ∈ M.es) (e : x.s = y.s) : x = y := by
  have h1 := h.get hx
  have h2 := h.get hy
  rw [e, h2] at h1
  cases h1; rfl
theorem Rq.ism {n : Nat} {q : Qu} {M : Mo} (h : Rq n q M) (g : ByteArray) (a : Nat → Int) : isMB (q.md g) a = isMB (M.md g) a := by unfold isMB; rw [h.ms]
theorem Rq.wt {n : Nat} {q : Qu} {M : Mo} (h : Rq n q M) : q.wt = ((M.ls ⟨#[]⟩ 0).length : Nat) := by
  rw [h.qo.wt]
  have h1 := (h.sel (lsP ⟨#[]⟩ 0)).length_eq
  unfold Mo.ls
  rw [← h1]
  unfold selE
  rw [List.length_map]
  have : (fun p : Ky × En => lsP ⟨#[]⟩ 0 p.2) = fun p => p.2.s.st == 0 := by
    funext p
    unfold lsP
    simp
  rw [this]

end Go.Proofs.YtfacflbmlfbeeaaGreatDoor

/- Chapter 39, plain: each operation keeps the two queues alike. -/
namespace Go.Proofs.YtfacflbmlfbeeaaGreatDoor
open Go.RowKit Go.Sort Go.Maps

theorem idB_of {f g : Nat → Int} (h : idI f = idI g) : idB f = idB g := congrArg (List.map fun x : Int => x.toNat.toUInt8) h
theorem cfM_congr {x x' y y' : Sb} (hx : x.ky = x'.ky) (hxr : x.r = x'.r) (hy : y.ky = y'.ky) (hyr : y.r = y'.r) : cfM x y = cfM x' y' := by
  unfold Sb.ky at hx hy
  obtain ⟨a1, a2⟩ := Prod.mk.inj hx
  obtain ⟨b1, b2⟩ := Prod.mk.inj hy
  unfold cfM cfT cfI
  rw [hxr, hyr, a2, b2, idB_of a1, idB_of b1]
theorem Rq.map {n : Nat} {q q' : Qu} {M : Mo} (h : Rq n q M) {G : En → En} (hG : ∀ y ∈ M.es, (G y).s.ky = y.s.ky ∧ (G y).s.r = y.s.r ∧ ((G y).le = true → (G y).s.st = 0)) (ho : q'.OK) (hr : q'.room = q.room) (hd : q'.days = q.days) (hm : q'.ms = q.ms)
    (hqd : q'.es.Pairwise fun p r => p.1 ≠ r.1) (hes : ∀ k, aget q'.es k = (aget q.es k).map G) : Rq n q' { M with es := M.es.map G } := by
  have hdis : DisK (M.es.map G) := List.pairwise_map.2 (h.dis.imp_of_mem fun {a b} ha hb hab e => hab (by rw [← (hG a ha).1, ← (hG b hb).1]; exact e))
  exact {
    qo := ho
    room := by rw [hr]; exact h.room
    days := by rw [hd]; exact h.days
    qd := hqd
    dis := hdis
    fd := fun k => opt_ext fun e => by
      rw [hes k, fd_iff hdis, ← h.fd k]
      constructor
      · rintro ⟨he, hk⟩
        obtain ⟨x, hx, rfl⟩ := List.mem_map.1 he
        rw [(hG x hx).1] at hk
        rw [(fd_iff h.dis).2 ⟨hx, hk⟩]; rfl
      · intro he
        obtain ⟨x, hx, rfl⟩ := Option.map_eq_some_iff.1 he
        obtain ⟨h1, h2⟩ := (fd_iff h.dis).1 hx
        exact ⟨List.mem_map.2 ⟨x, h1, rfl⟩, by rw [(hG x h1).1]; exact h2⟩
    srt := List.pairwise_map.2 (h.srt.imp_of_mem fun {a b} ha hb hab => by
      rw [cfM_congr (hG a ha).1 (hG a ha).2.1 (hG b hb).1 (hG b hb).2.1]; exact hab)
    ms := fun g => by
      have : q'.md g = q.md g := by unfold Qu.md; rw [hm]
      rw [this]; exact h.ms g
    gs := h.gs
    gl := h.gl
    el := by show (M.es.map G).length ≤ n; rw [List.length_map]; exact h.el
    le := fun x hx hl => by
      obtain ⟨y, hy, rfl⟩ := List.mem_map.1 hx
      exact (hG y hy).2.2 hl }
theorem Rq.up {n : Nat} {q : Qu} {M : Mo} (h : Rq n q M) {k : Ky} {u v : En} {f : En → En} {wt : Int} (hu : aget q.es k = some u) (hf : f u = v) (hky : v.s.ky = u.s.ky) (hr : v.s.r = u.s.r) (hle : v.le = true → v.s.st = 0) (hq : ({ q with es := aset q.es k v, wt := wt } : Qu).OK) :
    Rq n { q with es := aset q.es k v, wt := wt } (M.up k f) := by
  have huk : u.s.ky = k := ((fd_iff h.dis).1 ((h.fd k).trans hu)).2
  have hy1 : ∀ y ∈ M.es, y.s.ky = k → y = u := fun y hy e => by
    have := h.get hy
    rw [e, hu] at this
    cases this; rfl
  refine h.map (G := fun y => if y.s.ky = k then f y else y) (fun y hy => ?_) hq rfl rfl rfl (aset_dis h.qd k v) (fun c => ?_)
  · split
    · rename_i e
      cases hy1 y hy e
      rw [hf]
      exact ⟨hky, hr, hle⟩
    · exact ⟨rfl, rfl, h.le y hy⟩
  · show aget (aset q.es k v) c = _
    rw [aget_aset]
    split
    · rename_i e
      subst e
      rw [hu]
      show _ = some (if u.s.ky = k then f u else u)
      rw [if_pos huk, hf]
    · rename_i e
      cases hc : aget q.es c with
      | none => rfl
      | some x =>
        have := ((fd_iff h.dis).1 ((h.fd c).trans hc)).2
        show some x = some (if x.s.ky = k then f x else x)
        rw [if_neg (fun e2 => e (by rw [← e2, this]))]
/-! ### Submit -/
def xsubE (M : Mo) (id : Nat → Int) (g tx : ByteArray) (now : Int) : Int := if minB now = false then 2 else if gnE g ≠ 0 then gnE g else if 65536 < tx.size then 5 else if (M.md g).l.length = 0 then 33 else if (M.fd (idI id, g)).isSome = true then 7 else if M.room ≤ ((M.ls ⟨#[]⟩ 0).length : Nat) then 9 else 0
theorem Rq.subE {n : Nat} {q : Qu} {M : Mo} (h : Rq n q M) (id : Nat → Int) (g tx : ByteArray) (now : Int) : subE q id g tx now = xsubE M id g tx now := by
  unfold Go.Proofs.YtfacflbmlfbeeaaGreatDoor.subE xsubE
  have e : M.fd (idI id, g) = aget q.es (idI id, g) := h.fd _
  rw [e, h.ms, h.room, ← h.wt]
/-! ### Claim -/
theorem find_first {α : Type} {P : α → Bool} : ∀ {l : List α} {x : α}, l.find? P = some x → ∃ t, l.filter P = x :: t
  | a :: l, x, h => by
    rw [List.find?_cons] at h
    rw [List.filter_cons]
    split at h
    · rename_i hp
      cases h
      rw [if_pos hp]; exact ⟨_, rfl⟩
    · rename_i hp
      rw [if_neg (by rw [hp]; decide)]
      exact find_first h
theorem Rq.clm {n : Nat} {q : Qu} {M : Mo} (h : Rq n q M) {g : ByteArray} {a : Nat → Int} (ha : BY a ∧ NZ 16 a) {now : Int} (h0 : xclE M g a now = 0) {x : Sb} (hx : x ∈ isSel q g (auI a) now) (hmin : ∀ y ∈ isSel q g (auI a) now, ¬ cfM y x < 0) :
    x = xclS M g a now ∧ Rq n { q with es := aset q.es x.ky ⟨x, true, a, now⟩ } (xclM M g a now) := by
  have hmn : minB now = true := by
    unfold xclE at h0
    split at h0
    · cases h0
    · rename_i h1; simpa using h1
  have hn := minB_iff.1 hmn
  cases hf : M.es.find? (clP g (auI a) now) with
  | none =>
    unfold xclE at h0
    rw [hf, if_neg (by rw [hmn]; decide)] at h0
    split at h0 <;> cases h0
  | some e =>
    have eS : xclS M g a now = e.s := by unfold xclS; rw [if_pos h0, hf]; rfl
    have em := List.mem_of_find?_eq_some hf
    have ep := List.find?_some hf
    obtain ⟨t, ht⟩ := find_first hf
    have hsel := h.sel (clP g (auI a) now)
    rw [ht] at hsel
    have hxe : x = e.s := by
      have h1 : x ∈ (e :: t).map (·.s) := hsel.subset hx
      obtain ⟨y, hy, rfl⟩ := List.mem_map.1 h1
      rcases List.mem_cons.1 hy with rfl | hy
      · rfl
      · have hs2 : (e :: t).Pairwise fun x y => cfM x.s y.s < 0 := by rw [← ht]; exact h.srt.sublist List.filter_sublist
        exact absurd ((List.pairwise_cons.1 hs2).1 y hy) (hmin e.s (hsel.symm.subset (List.mem_map.2 ⟨e, List.mem_cons_self, rfl⟩)))
    subst hxe
    refine ⟨eS.symm, ?_⟩
    have hst : e.s.st = 0 := by unfold clP at ep; simp at ep; exact ep.1.2
    have eM : xclM M g a now = M.up e.s.ky (fun y => ⟨y.s, true, a, now⟩) := by unfold xclM; rw [if_pos h0, eS]
    rw [eM]
    exact h.up (f := fun y => ⟨y.s, true, a, now⟩) (v := ⟨e.s, true, a, now⟩) (h.get em) rfl rfl rfl (fun _ => hst) (h.qo.clm h.qd hx ha hn)

/-! ### Release -/
theorem Rq.en {n : Nat} {q : Qu} {M : Mo} (h : Rq n q M) (k : Ky) : M.fd k = aget q.es k := h.fd k
theorem en_some {q : Qu} {k : Ky} {u : En} (h : aget q.es k = some u) : q.en k = u := by unfold Qu.en; rw [h]; rfl
theorem Rq.rlE {n : Nat} {q : Qu} {M : Mo} (h : Rq n q M) (id : Nat → Int) (g : ByteArray) (a : Nat → Int) (now : Int) : relE q id g a now = xrlE M (idI id, g) a now := by
  unfold relE xrlE
  rw [h.en]
  cases hg : aget q.es (idI id, g) with
  | none => simp
  | some u => rw [en_some hg]; simp
theorem Rq.rel {n : Nat} {q : Qu} {M : Mo} (h : Rq n q M) (id : Nat → Int) (g : ByteArray) (a : Nat → Int) (now : Int) : Rq n (relQ q id g a now) (xrlM M (idI id, g) a now) := by
  unfold relQ xrlM
  rw [← h.rlE]
  split
  · rename_i h0
    unfold relE at h0
    split at h0
    · cases h0
    split at h0
    · cases h0
    rename_i hc
    rw [not_or] at hc
    cases hg : aget q.es (idI id, g) with
    | none => rw [hg] at hc; exact absurd rfl hc.1
    | some u =>
      rw [en_some hg] at hc ⊢
      have ho := h.qo.es _ _ hg
      exact h.up (wt := q.wt) (f := fun y => plainE y.s) (v := plainE u.s) hg rfl rfl rfl (fun hl => by cases hl) (h.qo.put (v := plainE u.s) hg rfl ⟨⟨ho.1.s, by0, fun _ _ => rfl, ⟨by show (0 : Int) ≤ 0; decide, by show (0 : Int) ≤ _; decide⟩⟩, ho.2⟩)
  · exact h

/-! ### Decide -/
noncomputable def xdcE (M : Mo) (id : Nat → Int) (g : ByteArray) (a : Nat → Int) (st : Int) (rs : ByteArray) (now : Int) : Int :=
  if minB now = false then 2 else if st = 2 ∧ 200 < rs.size then 5 else if st = 2 ∧ prtB rs = false then 6 else if isMB (M.md g) a = false then 20 else match M.fd (idI id, g) with
  | none => 8
  | some y => if y.s.st ≠ 0 then 10 else if blk y (auI a) now = true then 25 else 0
noncomputable def xdcM (M : Mo) (id : Nat → Int) (g : ByteArray) (a : Nat → Int) (st : Int) (rs : ByteArray) (now : Int) : Mo := if xdcE M id g a st rs now = 0 then M.up (idI id, g) (fun y => plainE (finS39 y.s a now st rs)) else M
theorem Rq.dcE {n : Nat} {q : Qu} {M : Mo} (h : Rq n q M) (id : Nat → Int) (g : ByteArray) (a : Nat → Int) (st : Int) (rs : ByteArray) (now : Int) : xdcE M id g a st rs now = if minB now = false then 2 else if st = 2 ∧ 200 < rs.size then 5 else if st = 2 ∧ prtB rs = false then 6 else decE q id g a now := by
  unfold xdcE decE
  rw [h.en, h.ism]
  cases hg : aget q.es (idI id, g) with
  | none => simp
  | some u => rw [en_some hg]; simp
theorem Rq.apE {n : Nat} {q : Qu} {M : Mo} (h : Rq n q M) (id : Nat → Int) (g : ByteArray) (a : Nat → Int) (now : Int) : apE q id g a now = xdcE M id g a 1 ⟨#[]⟩ now := by
  rw [h.dcE]
  unfold Go.Proofs.YtfacflbmlfbeeaaGreatDoor.apE
  simp
theorem Rq.dec {n : Nat} {q : Qu} {M : Mo} (h : Rq n q M) {id : Nat → Int} {g : ByteArray} {a : Nat → Int} (ha : BY a ∧ NZ 16 a) {st : Int} (hst : 1 ≤ st ∧ st ≤ 3) {rs : ByteArray} (hr : rs.size ≤ 200) {now : Int} (h0 : xdcE M id g a st rs now = 0) :
    Rq n (decQ q id g a now st rs) (M.up (idI id, g) (fun y => plainE (finS39 y.s a now st rs))) := by
  have h0' := h0
  rw [h.dcE] at h0'
  have hmn : minB now = true := by
    split at h0'
    · cases h0'
    · rename_i h1; simpa using h1
  have hn := minB_iff.1 hmn
  have hd : decE q id g a now = 0 := by
    repeat' (split at h0'; · cases h0')
    exact h0'
  unfold decQ
  rw [if_pos hd]
  have hd' := hd
  unfold decE at hd'
  split at hd'
  · cases hd'
  split at hd'
  · cases hd'
  rename_i h8
  split at hd'
  · cases hd'
  rename_i h10
  cases hg : aget q.es (idI id, g) with
  | none => rw [hg] at h8; exact absurd rfl h8
  | some u =>
    rw [en_some hg] at h10 ⊢
    have hs0 : u.s.st = 0 := by simpa using h10
    have hk : u.s.ky = (idI id, g) := ((h.qo.es _ _ hg).2.1).symm
    have hf := h.qo.fin hg hs0 ha hn hst hr
    have e : finQ q (finS39 u.s a now st rs) = { q with es := aset q.es (idI id, g) (plainE (finS39 u.s a now st rs)), wt := q.wt - 1 } := by
      unfold finQ
      have : (finS39 u.s a now st rs).ky = u.s.ky := rfl
      rw [this, hk]
    rw [e] at hf ⊢
    exact h.up (f := fun y => plainE (finS39 y.s a now st rs)) (v := plainE (finS39 u.s a now st rs)) hg rfl rfl rfl (fun hl => by cases hl) hf
/-! ### Lapse -/
/-! ### Forget -/
/-! ### The moderators -/
theorem gset_mem {g : ByteArray} {X : MX} {y : Gx} : ∀ {l : List Gx}, y ∈ gset l g X → y = ⟨g, X⟩ ∨ y ∈ l
  | [], h => by unfold gset at h; exact .inl (by simpa using h)
  | z :: r, h => by
    unfold gset at h
    split at h
    · rcases List.mem_cons.1 h with h | h
      · exact .inl h
      · exact .inr (List.mem_cons_of_mem _ h)
    · rcases List.mem_cons.1 h with h | h
      · exact .inr (by rw [h]; exact List.mem_cons_self)
      · exact (gset_mem h).imp id (List.mem_cons_of_mem _)
theorem Rq.new (room days : Int) (h : newR room days = false) : Rq 0 ⟨room, days, 0, [], []⟩ ⟨room, days, [], []⟩ := by
  unfold newR at h
  simp at h
  exact ⟨⟨⟨h.1.1.1, h.1.1.2⟩, ⟨h.1.2, h.2⟩, rfl, fun g x h => (by cases h), fun k x h => (by cases h)⟩, rfl, rfl, List.Pairwise.nil, List.Pairwise.nil, fun k => rfl, List.Pairwise.nil, fun g => rfl, fun y hy => (by cases hy), by show (0 : Nat) ≤ 0; omega, by show (0 : Nat) ≤ 0; omega, fun x hx => (by cases hx)⟩

end Go.Proofs.YtfacflbmlfbeeaaGreatDoor

/- Chapter 39: SetModerators again, with the types of the rows. Printed by mksetq39.py. -/
namespace Go.Proofs.YtfacflbmlfbeeaaGreatDoor
open Go.RowKit Go.Sort Go.Maps

end Go.Proofs.YtfacflbmlfbeeaaGreatDoor

/- Chapter 39: the example of the chapter, plain. No condition. -/
namespace Go.Proofs.YtfacflbmlfbeeaaGreatDoor
open Go.RowKit Go.Sort Go.Maps

def k39 (v : Int) : Nat → Int
  | 0 => v
  | _ + 1 => 0
theorem k39_BY {v : Int} (h : 0 ≤ v ∧ v ≤ 255) : BY (k39 v) := fun j => by cases j <;> simp [k39] <;> omega
theorem k39_NZ {n : Nat} (h : 0 < n) (v : Int) : NZ n (k39 v) := fun j hj => by
  cases j with
  | zero => omega
  | succ j => rfl
def kG : ByteArray := ⟨#[103]⟩
def kX : ByteArray := ⟨#[116, 101, 120, 116, 32, 111, 102, 32, 120]⟩
def kY : ByteArray := ⟨#[116, 101, 120, 116, 32, 111, 102, 32, 121]⟩
def kex : En := newE (k39 7) kG kX 10
def key_ : En := newE (k39 3) kG kY 5
def kx : Ky := (idI (k39 7), kG)
def ky : Ky := (idI (k39 3), kG)
def key2 : En := ⟨key_.s, true, k39 1, 20⟩
def kex2 : En := ⟨kex.s, true, k39 2, 20⟩
def key3 : En := plainE (finS39 key_.s (k39 2) 80 1 ⟨#[]⟩)
def kq (x : MX) (wt : Int) (es : List (Ky × En)) : Qu := ⟨5, 14, wt, [(kG, x)], es⟩
/-- Two moderators. -/
def kM (x : MX) : Prop := x.l.Perm [k39 2, k39 1]
theorem kq_md {x : MX} {wt : Int} {es : List (Ky × En)} : (kq x wt es).md kG = x := by unfold Qu.md kq; simp [aget]
theorem kM_is {x : MX} (h : kM x) (i : Int) (hi : i = 1 ∨ i = 2) : isMB x (k39 i) = true := by
  unfold isMB
  rw [decide_eq_true_eq]
  refine List.mem_map.2 ⟨k39 i, h.symm.subset ?_, rfl⟩
  rcases hi with rfl | rfl <;> simp
theorem kxy : ¬ kx = ky := by decide +kernel
theorem k_set : setE kG [k39 2, k39 1] = 0 := by
  unfold setE
  rw [if_neg (by decide +kernel), if_neg (by decide), if_pos]
  have h : auI (k39 2) ≠ auI (k39 1) := by decide +kernel
  simp [h]
theorem kset_iff {q' : Qu} (h : setR ⟨5, 14, 0, [], []⟩ kG [k39 2, k39 1] q') : ∃ x, kM x ∧ q' = kq x 0 [] := by
  rcases h with ⟨h, _⟩ | ⟨_, h, _⟩ | ⟨_, _, x, hp, _, _, rfl⟩
  · exact absurd k_set h
  · cases h
  · exact ⟨x, hp, rfl⟩
theorem k_gn : gnE kG = 0 := by decide +kernel
theorem k_sub1 {x : MX} (h : kM x) : subE (kq x 0 []) (k39 7) kG kX 10 = 0 := by
  unfold subE
  rw [if_neg (by decide), if_neg (by rw [k_gn]; decide), if_neg (by decide), kq_md, if_neg (by rw [h.length_eq]; decide), if_neg (by show ¬ (aget [] _).isSome = true; decide), if_neg (by show ¬ (5 : Int) ≤ 0; decide)]
theorem k_subQ1 {x : MX} (h : kM x) : subQ (kq x 0 []) (k39 7) kG kX 10 = kq x 1 [(kx, kex)] := by
  unfold subQ
  rw [if_pos (k_sub1 h)]
  rfl
theorem k_a1 : aget [(kx, kex)] ky = none := by unfold aget; rw [if_neg kxy]; rfl
theorem k_sub2 {x : MX} (h : kM x) : subE (kq x 1 [(kx, kex)]) (k39 3) kG kY 5 = 0 := by
  unfold subE
  rw [if_neg (by decide), if_neg (by rw [k_gn]; decide), if_neg (by decide), kq_md, if_neg (by rw [h.length_eq]; decide), if_neg (by show ¬ (aget [(kx, kex)] ky).isSome = true; rw [k_a1]; decide), if_neg (by show ¬ (5 : Int) ≤ 1; decide)]
theorem k_subQ2 {x : MX} (h : kM x) : subQ (kq x 1 [(kx, kex)]) (k39 3) kG kY 5 = kq x 2 [(kx, kex), (ky, key_)] := by
  unfold subQ
  rw [if_pos (k_sub2 h)]
  show kq x 2 (aset [(kx, kex)] ky key_) = _
  unfold aset
  rw [if_neg kxy]
  rfl
theorem k_s1 : ∀ e1 e2 : En, selE (clP kG (auI (k39 1)) 20) [(kx, e1), (ky, e2)] = (if clP kG (auI (k39 1)) 20 e1 = true then [e1.s] else []) ++ (if clP kG (auI (k39 1)) 20 e2 = true then [e2.s] else []) := fun e1 e2 => by
  unfold selE
  rw [List.filter_cons, List.filter_cons, List.filter_nil]
  split <;> split <;> rfl
theorem k_s2 : ∀ e1 e2 : En, selE (clP kG (auI (k39 2)) 20) [(kx, e1), (ky, e2)] = (if clP kG (auI (k39 2)) 20 e1 = true then [e1.s] else []) ++ (if clP kG (auI (k39 2)) 20 e2 = true then [e2.s] else []) := fun e1 e2 => by
  unfold selE
  rw [List.filter_cons, List.filter_cons, List.filter_nil]
  split <;> split <;> rfl
theorem k_c1 : clP kG (auI (k39 1)) 20 kex = true := by decide +kernel
theorem k_c2 : clP kG (auI (k39 1)) 20 key_ = true := by decide +kernel
theorem k_c3 : clP kG (auI (k39 1)) 20 key2 = true := by decide +kernel
theorem k_c4 : clP kG (auI (k39 2)) 20 kex = true := by decide +kernel
theorem k_c5 : clP kG (auI (k39 2)) 20 key2 = false := by decide +kernel
theorem k_lt : cfM key_.s kex.s < 0 := by decide +kernel
theorem k_sel1 {x : MX} : isSel (kq x 2 [(kx, kex), (ky, key_)]) kG (auI (k39 1)) 20 = [kex.s, key_.s] := by
  show selE _ [(kx, kex), (ky, key_)] = _
  rw [k_s1, if_pos k_c1, if_pos k_c2]; rfl
theorem k_sel2 {x : MX} : isSel (kq x 2 [(kx, kex), (ky, key2)]) kG (auI (k39 1)) 20 = [kex.s, key_.s] := by
  show selE _ [(kx, kex), (ky, key2)] = _
  rw [k_s1, if_pos k_c1, if_pos k_c3]; rfl
theorem k_sel3 {x : MX} : isSel (kq x 2 [(kx, kex), (ky, key2)]) kG (auI (k39 2)) 20 = [kex.s] := by
  show selE _ [(kx, kex), (ky, key2)] = _
  rw [k_s2, if_pos k_c4, if_neg (by rw [k_c5]; decide)]; rfl
theorem k_min {s : Sb} (h : s ∈ [kex.s, key_.s]) (hm : ∀ y ∈ [kex.s, key_.s], ¬ cfM y s < 0) : s = key_.s := by
  rcases List.mem_cons.1 h with rfl | h
  · exact absurd k_lt (hm key_.s (by simp))
  · simpa using h
theorem k_clm {x : MX} (h : kM x) (i : Int) (hi : i = 1 ∨ i = 2) {es : List (Ky × En)} (hs : (isSel (kq x 2 es) kG (auI (k39 i)) 20).length ≠ 0) : clmE (kq x 2 es) kG (k39 i) 20 = 0 := by
  unfold clmE
  rw [if_neg (by decide), kq_md, if_neg (by rw [kM_is h i hi]; decide), if_neg hs]
theorem k_set1 {e1 e2 v : En} : aset [(kx, e1), (ky, e2)] ky v = [(kx, e1), (ky, v)] := by
  unfold aset
  rw [if_neg kxy]
  unfold aset
  rw [if_pos rfl]
theorem k_set2 {e1 e2 v : En} : aset [(kx, e1), (ky, e2)] kx v = [(kx, v), (ky, e2)] := by
  unfold aset
  rw [if_pos rfl]
theorem k_gety {e1 e2 : En} : aget [(kx, e1), (ky, e2)] ky = some e2 := by
  unfold aget
  rw [if_neg kxy]
  unfold aget
  rw [if_pos rfl]
theorem k_en {x : MX} {e1 e2 : En} : (kq x 2 [(kx, e1), (ky, e2)]).en ky = e2 := by
  unfold Qu.en
  show (aget [(kx, e1), (ky, e2)] ky).getD enz = e2
  rw [k_gety]; rfl
theorem k_dec {x : MX} (h : kM x) {e1 : En} (now : Int) : decE (kq x 2 [(kx, e1), (ky, key2)]) (k39 3) kG (k39 2) now = if blk key2 (auI (k39 2)) now = true then 25 else 0 := by
  unfold decE
  rw [kq_md, if_neg (by rw [kM_is h 2 (.inr rfl)]; decide), if_neg (by show ¬ (aget [(kx, e1), (ky, key2)] ky).isSome = false; rw [k_gety]; decide)]
  have e : (kq x 2 [(kx, e1), (ky, key2)]).en (idI (k39 3), kG) = key2 := k_en
  rw [e, if_neg (by show ¬ (0 : Int) ≠ 0; decide)]
theorem k_b79 : blk key2 (auI (k39 2)) 79 = true := by decide +kernel
theorem k_b80 : blk key2 (auI (k39 2)) 80 = false := by decide +kernel
theorem k_ap79 {x : MX} (h : kM x) {e1 : En} : apE (kq x 2 [(kx, e1), (ky, key2)]) (k39 3) kG (k39 2) 79 = 25 := by
  unfold apE
  rw [if_neg (by decide), k_dec h, if_pos k_b79]
theorem k_ap80 {x : MX} (h : kM x) {e1 : En} : apE (kq x 2 [(kx, e1), (ky, key2)]) (k39 3) kG (k39 2) 80 = 0 := by
  unfold apE
  rw [if_neg (by decide), k_dec h, if_neg (by rw [k_b80]; decide)]
theorem k_apQ79 {x : MX} (h : kM x) {e1 : En} : apQ (kq x 2 [(kx, e1), (ky, key2)]) (k39 3) kG (k39 2) 79 1 ⟨#[]⟩ = kq x 2 [(kx, e1), (ky, key2)] := by
  unfold apQ decQ
  rw [if_neg (by decide), k_dec h, if_pos k_b79, if_neg (by decide)]
theorem k_apQ80 {x : MX} (h : kM x) {e1 : En} : apQ (kq x 2 [(kx, e1), (ky, key2)]) (k39 3) kG (k39 2) 80 1 ⟨#[]⟩ = kq x 1 [(kx, e1), (ky, key3)] := by
  unfold apQ decQ
  have e : (kq x 2 [(kx, e1), (ky, key2)]).en (idI (k39 3), kG) = key2 := k_en
  rw [if_neg (by decide), k_dec h, k_b80, if_pos (by decide), e]
  show kq x 1 (aset [(kx, e1), (ky, key2)] ky key3) = _
  rw [k_set1]
theorem k_l1 : lsP kG 1 kex2 = false := by decide +kernel
theorem k_l2 : lsP kG 1 key3 = true := by decide +kernel
theorem k_cnt : (selE (lsP kG 1) [(kx, kex2), (ky, key3)]).length = 1 := by
  unfold selE
  rw [List.filter_cons, if_neg (by rw [k_l1]; decide), List.filter_cons, if_pos k_l2]
  rfl
theorem kq0_ok : (⟨5, 14, 0, [], []⟩ : Qu).OK := ⟨⟨by decide, by decide⟩, ⟨by decide, by decide⟩, rfl, fun g x h => (by cases h), fun k x h => (by cases h)⟩
theorem kml : ∀ m ∈ [k39 2, k39 1], BY m ∧ NZ 16 m := fun m hm => by
  simp only [List.mem_cons, List.not_mem_nil, or_false] at hm
  rcases hm with rfl | rfl
  · exact ⟨k39_BY (by decide), k39_NZ (by decide) 2⟩
  · exact ⟨k39_BY (by decide), k39_NZ (by decide) 1⟩

end Go.Proofs.YtfacflbmlfbeeaaGreatDoor
