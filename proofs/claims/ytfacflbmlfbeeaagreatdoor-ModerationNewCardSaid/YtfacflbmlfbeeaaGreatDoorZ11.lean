/- The formulas of functions by the symbolic evaluator, and that each gives the call's contract. Written by a program (gen.py). No condition. -/
import Derived.Test.YtfacflbmlfbeeaaGreatDoorProg
import Derived.Test.YtfacflbmlfbeeaaGreatDoorZ02
import Derived.Test.YtfacflbmlfbeeaaGreatDoorZ05
import Derived.Test.YtfacflbmlfbeeaaGreatDoorZ04
import Derived.KernelRfl
import Derived.Test.YtfacflbmlfbeeaaGreatDoorZ10
namespace Go.Proofs.YtfacflbmlfbeeaaGreatDoor
set_option maxRecDepth 100000
set_option linter.unusedVariables false

def VC_decide (b : Nat) (i : Nat → Int) (s : ByteArray) (a : Nat → Int) (now : Int) (st : Int) (rs : ByteArray) (w : World) (R : Ending → World → Prop) : Prop :=
 ∀ (n n_1 : Nat) (W : World),
 Loc w.heap.size
 [Blk.mk n_1 45
 (arrI IntKind.u8 a 16 0)
 2,
 Blk.mk n 32
 (arrI IntKind.u8 i 32 0)
 2]
 w W →
 CallsS Tryz.prog 75
 #[Value.pointer (some (Addr.mk b 0 none)), Value.string s,
 Value.agg
 (arrI IntKind.u8 a 16 0).toArray]
 W fun (e : Ending) (w' : World) =>
 ∃ (x : Bool),
 e = Ending.returned (Value.bool x) ∧
 KeptL [n_1, n] W w' ∧
 bsp (!x) (R (Ending.returned (Value.int IntKind.i64 20)) w')
 (∀ (W : World),
 Loc w.heap.size
 [Blk.mk n_1 45
 (arrI IntKind.u8 a 16 0)
 0,
 Blk.mk n 32
 (arrI IntKind.u8 i 32 0)
 0]
 w' W →
 ∃ (S : World → Prop),
 S W ∧
 ∃ (x : Option Nat),
 (∀ (w' : World), S w' → w'.cell? (Addr.mk b (0 + 4) none) = some (Value.map x)) ∧
 ∃ (f : Nat → Int),
 (∀ (w' : World),
 S w' →
 AtL w' n 0
 (arrI IntKind.u8 f 32 0)) ∧
 ∃ (f_1 : Nat → Int),
 ∃ (x_1 : ByteArray),
 ∃ (x_2 : ByteArray),
 ∃ (x_3 : Int),
 ∃ (x_4 : Int),
 ∃ (f_2 : Nat → Int),
 ∃ (x_5 : Int),
 ∃ (x_6 : ByteArray),
 ∃ (x_7 : Bool),
 ∃ (f_3 : Nat → Int),
 ∃ (x_8 : Int),
 ∃ (b_1 : Bool),
 (∀ (w' : World),
 S w' →
 LookP Tryz.prog 96 (Value.map x)
 (Value.agg
 (arrI IntKind.u8 f 32 0 ++ [Value.string s]).toArray)
 true
 (Value.tuple
 #[Value.agg
 (arrI IntKind.u8 f_1 32 0 ++ ([Value.string x_1,
 Value.string x_2, Value.int IntKind.i64 x_3, Value.int IntKind.i64 x_4] ++ arrI IntKind.u8 f_2 16 0 ++ ([Value.int IntKind.i64 x_5, Value.string x_6, Value.bool x_7] ++ arrI IntKind.u8 f_3 16 0 ++ [Value.int IntKind.i64 x_8]))).toArray,
 Value.bool b_1])
 w') ∧
 ∀ (n_2 : Nat) (w1 : World),
 NewB W
 (Obj.cells
 #[Value.int IntKind.u8 0, Value.int IntKind.u8 0, Value.int IntKind.u8 0,
 Value.int IntKind.u8 0, Value.int IntKind.u8 0, Value.int IntKind.u8 0,
 Value.int IntKind.u8 0, Value.int IntKind.u8 0, Value.int IntKind.u8 0,
 Value.int IntKind.u8 0, Value.int IntKind.u8 0, Value.int IntKind.u8 0,
 Value.int IntKind.u8 0, Value.int IntKind.u8 0, Value.int IntKind.u8 0,
 Value.int IntKind.u8 0, Value.int IntKind.u8 0, Value.int IntKind.u8 0,
 Value.int IntKind.u8 0, Value.int IntKind.u8 0, Value.int IntKind.u8 0,
 Value.int IntKind.u8 0, Value.int IntKind.u8 0, Value.int IntKind.u8 0,
 Value.int IntKind.u8 0, Value.int IntKind.u8 0, Value.int IntKind.u8 0,
 Value.int IntKind.u8 0, Value.int IntKind.u8 0, Value.int IntKind.u8 0,
 Value.int IntKind.u8 0, Value.int IntKind.u8 0, Value.string (ByteArray.mk #[]),
 Value.string (ByteArray.mk #[]), Value.int IntKind.i64 0, Value.int IntKind.i64 0,
 Value.int IntKind.u8 0, Value.int IntKind.u8 0, Value.int IntKind.u8 0,
 Value.int IntKind.u8 0, Value.int IntKind.u8 0, Value.int IntKind.u8 0,
 Value.int IntKind.u8 0, Value.int IntKind.u8 0, Value.int IntKind.u8 0,
 Value.int IntKind.u8 0, Value.int IntKind.u8 0, Value.int IntKind.u8 0,
 Value.int IntKind.u8 0, Value.int IntKind.u8 0, Value.int IntKind.u8 0,
 Value.int IntKind.u8 0, Value.int IntKind.i64 0, Value.string (ByteArray.mk #[]),
 Value.bool false, Value.int IntKind.u8 0, Value.int IntKind.u8 0,
 Value.int IntKind.u8 0, Value.int IntKind.u8 0, Value.int IntKind.u8 0,
 Value.int IntKind.u8 0, Value.int IntKind.u8 0, Value.int IntKind.u8 0,
 Value.int IntKind.u8 0, Value.int IntKind.u8 0, Value.int IntKind.u8 0,
 Value.int IntKind.u8 0, Value.int IntKind.u8 0, Value.int IntKind.u8 0,
 Value.int IntKind.u8 0, Value.int IntKind.u8 0, Value.int IntKind.i64 0]
 107)
 n_2 w1 →
 S w1 ∧
 WrL w1 n_2 0 72 ∧
 ∀ (w1_1 : World),
 PutB w1 n_2 0
 (arrI IntKind.u8 f_1 32 0 ++ ([Value.string x_1,
 Value.string x_2, Value.int IntKind.i64 x_3, Value.int IntKind.i64 x_4] ++ arrI IntKind.u8 f_2 16 0 ++ ([Value.int IntKind.i64 x_5, Value.string x_6, Value.bool x_7] ++ arrI IntKind.u8 f_3 16 0 ++ [Value.int IntKind.i64 x_8])))
 w1_1 →
 KeptL [n_1, n] W w1_1 ∧
 bsp (!b_1) (R (Ending.returned (Value.int IntKind.i64 8)) w1_1)
 (∃ (x : Int),
 w1_1.cell? (Addr.mk n_2 (0 + 35) none) = some (Value.int IntKind.i64 x) ∧
 bsp (x != 0) (R (Ending.returned (Value.int IntKind.i64 10)) w1_1)
 (∃ (f : Nat → Int),
 ∃ (x : ByteArray),
 ∃ (x_9 : ByteArray),
 ∃ (x_10 : Int),
 ∃ (x_11 : Int),
 ∃ (f_4 : Nat → Int),
 ∃ (x_12 : Int),
 ∃ (x_13 : ByteArray),
 ∃ (x_14 : Bool),
 ∃ (f_5 : Nat → Int),
 ∃ (x_15 : Int),
 AtL w1_1 n_2 0
 (arrI IntKind.u8 f 32 0 ++ ([Value.string x, Value.string x_9, Value.int IntKind.i64 x_10,
 Value.int IntKind.i64 x_11] ++ arrI IntKind.u8 f_4 16 0 ++ ([Value.int IntKind.i64 x_12,
 Value.string x_13, Value.bool x_14] ++ arrI IntKind.u8 f_5 16 0 ++ [Value.int IntKind.i64 x_15]))) ∧
 CallsS Tryz.prog 77
 #[Value.agg
 (arrI IntKind.u8 f 32 0 ++ ([Value.string x, Value.string x_9, Value.int IntKind.i64 x_10,
 Value.int IntKind.i64 x_11] ++ arrI IntKind.u8 f_4 16 0 ++ ([Value.int IntKind.i64 x_12,
 Value.string x_13, Value.bool x_14] ++ arrI IntKind.u8 f_5 16 0 ++ [Value.int IntKind.i64 x_15]))).toArray,
 Value.agg
 (arrI IntKind.u8 a 16 0).toArray,
 Value.int IntKind.i64 now]
 w1_1 fun (e : Ending) (w' : World) =>
 ∃ (x : Bool),
 e = Ending.returned (Value.bool x) ∧
 KeptL [n_1, n] w1_1 w' ∧
 bsp x (R (Ending.returned (Value.int IntKind.i64 25)) w')
 (∃ (f : Nat → Int),
 ∃ (x : ByteArray),
 ∃ (x_16 : ByteArray),
 ∃ (x_17 : Int),
 ∃ (x_18 : Int),
 ∃ (f_6 : Nat → Int),
 ∃ (x_19 : Int),
 ∃ (x_20 : ByteArray),
 AtL w' n_2 0
 (arrI IntKind.u8 f 32 0 ++ ([Value.string x,
 Value.string x_16, Value.int IntKind.i64 x_17,
 Value.int IntKind.i64 x_18] ++ arrI IntKind.u8 f_6 16 0 ++ [Value.int IntKind.i64 x_19, Value.string x_20])) ∧
 CallsS Tryz.prog 70
 #[Value.pointer (some (Addr.mk b 0 none)),
 Value.agg
 (arrI IntKind.u8 f 32 0 ++ ([Value.string x,
 Value.string x_16, Value.int IntKind.i64 x_17,
 Value.int IntKind.i64 x_18] ++ arrI IntKind.u8 f_6 16 0 ++ [Value.int IntKind.i64 x_19, Value.string x_20])).toArray,
 Value.agg
 (arrI IntKind.u8 a 16 0).toArray,
 Value.int IntKind.i64 now, Value.int IntKind.i64 st,
 Value.string rs]
 w' fun (e : Ending) (w'_1 : World) =>
 ∃ (f : Nat → Int),
 ∃ (x : ByteArray),
 ∃ (x_21 : ByteArray),
 ∃ (x_22 : Int),
 ∃ (x_23 : Int),
 ∃ (f_7 : Nat → Int),
 ∃ (x_24 : Int),
 ∃ (x_25 : ByteArray),
 e =
 Ending.returned
 (Value.agg
 (arrI IntKind.u8 f 32 0 ++ ([Value.string x, Value.string x_21,
 Value.int IntKind.i64 x_22,
 Value.int IntKind.i64 x_23] ++ arrI IntKind.u8 f_7 16 0 ++ [Value.int IntKind.i64 x_24,
 Value.string x_25])).toArray) ∧
 KeptL [n_1, n] w' w'_1 ∧
 R
 (Ending.returned (Value.int IntKind.i64 0))
 w'_1))))
theorem vc_decide (b : Nat) (i : Nat → Int) (s : ByteArray) (a : Nat → Int) (now : Int) (st : Int) (rs : ByteArray) (w : World) (R : Ending → World → Prop) (h : VC_decide b i s a now st rs w R) : Calls Tryz.prog 50 ([Value.pointer
    (some { block := b, off := 0 }),
  Value.agg (arrI IntKind.u8 i 32 0).toArray, Value.string s, Value.agg (arrI IntKind.u8 a 16 0).toArray,
  Value.int IntKind.i64 now, Value.int IntKind.i64 st, Value.string rs] : List Value).toArray w R := by
  have e : execR2 { P := Tryz.prog, loops := [], pur := pur1, tails := [(3, 11)], joins := [], boxes := [] } Tryz.f50.results.toList R (Tryz.f50.body.getD .skip) (initF [Value.pointer
    (some { block := b, off := 0 }),
  Value.agg (arrI IntKind.u8 i 32 0).toArray, Value.string s, Value.agg (arrI IntKind.u8 a 16 0).toArray,
  Value.int IntKind.i64 now, Value.int IntKind.i64 st,
  Value.string
    rs] (Tryz.f50.ntmps - ([Value.pointer (some { block := b, off := 0 }), Value.agg (arrI IntKind.u8 i 32 0).toArray,
  Value.string s, Value.agg (arrI IntKind.u8 a 16 0).toArray, Value.int IntKind.i64 now, Value.int IntKind.i64 st,
  Value.string rs] : List Value).length)) w = VC_decide b i s a now st rs w R := by kernel_rfl
  have hb : Tryz.f50.body = some (Tryz.f50.body.getD .skip) := by kernel_rfl
  exact calls_of_exec2' (P := Tryz.prog) (fn := Tryz.f50) (c := Tryz.f50.body.getD .skip) (args := [Value.pointer
    (some { block := b, off := 0 }),
  Value.agg (arrI IntKind.u8 i 32 0).toArray, Value.string s, Value.agg (arrI IntKind.u8 a 16 0).toArray,
  Value.int IntKind.i64 now, Value.int IntKind.i64 st, Value.string rs]) (w := w) (R := R) pur1_ok Tryz.func50 hb e h

def VC_finish (b : Nat) (id : Nat → Int) (mo : Nat → Int) (g : ByteArray) (t : ByteArray) (r : Int) (st : Int) (de : Int) (rs : ByteArray) (a : Nat → Int) (now : Int) (sn : Int) (rn : ByteArray) (w : World) (R : Ending → World → Prop) : Prop :=
 ∀ (n n_1 n_2 : Nat) (W : World),
 Loc w.heap.size
 [Blk.mk n_2 48
 [Value.int IntKind.u8 0, Value.int IntKind.u8 0, Value.int IntKind.u8 0, Value.int IntKind.u8 0,
 Value.int IntKind.u8 0, Value.int IntKind.u8 0, Value.int IntKind.u8 0, Value.int IntKind.u8 0,
 Value.int IntKind.u8 0, Value.int IntKind.u8 0, Value.int IntKind.u8 0, Value.int IntKind.u8 0,
 Value.int IntKind.u8 0, Value.int IntKind.u8 0, Value.int IntKind.u8 0, Value.int IntKind.u8 0,
 Value.int IntKind.u8 0, Value.int IntKind.u8 0, Value.int IntKind.u8 0, Value.int IntKind.u8 0,
 Value.int IntKind.u8 0, Value.int IntKind.u8 0, Value.int IntKind.u8 0, Value.int IntKind.u8 0,
 Value.int IntKind.u8 0, Value.int IntKind.u8 0, Value.int IntKind.u8 0, Value.int IntKind.u8 0,
 Value.int IntKind.u8 0, Value.int IntKind.u8 0, Value.int IntKind.u8 0, Value.int IntKind.u8 0,
 Value.string (ByteArray.mk #[]), Value.string (ByteArray.mk #[]), Value.int IntKind.i64 0,
 Value.int IntKind.i64 0, Value.int IntKind.u8 0, Value.int IntKind.u8 0, Value.int IntKind.u8 0,
 Value.int IntKind.u8 0, Value.int IntKind.u8 0, Value.int IntKind.u8 0, Value.int IntKind.u8 0,
 Value.int IntKind.u8 0, Value.int IntKind.u8 0, Value.int IntKind.u8 0, Value.int IntKind.u8 0,
 Value.int IntKind.u8 0, Value.int IntKind.u8 0, Value.int IntKind.u8 0, Value.int IntKind.u8 0,
 Value.int IntKind.u8 0, Value.int IntKind.i64 0, Value.string (ByteArray.mk #[])]
 2,
 Blk.mk n_1 45
 (arrI IntKind.u8 a 16 0)
 2,
 Blk.mk n 48
 (arrI IntKind.u8 id 32 0 ++ ([Value.string g, Value.string t,
 Value.int IntKind.i64 r, Value.int IntKind.i64 st] ++ arrI IntKind.u8 mo 16 0 ++ [Value.int IntKind.i64 de, Value.string rs]))
 2]
 w W →
 ∃ (S : World → Prop),
 S W ∧
 ∃ (f : Nat → Int),
 (∀ (w' : World),
 S w' →
 AtL w' n_1 0
 (arrI IntKind.u8 f 16 0)) ∧
 ((∃ (u : Value), W.cell? (Addr.mk n (0 + 35) none) = some u) ∧ W.frozen? (Addr.mk n (0 + 35) none) = false) ∧
 ∀ (w1 : World),
 PutB W n (0 + 35) [Value.int IntKind.i64 sn] w1 →
 S w1 ∧
 WrL w1 n (0 + 36) 16 ∧
 ∀ (w1_1 : World),
 PutB w1 n (0 + 36)
 (arrI IntKind.u8 f 16 0)
 w1_1 →
 ((∃ (u : Value), w1_1.cell? (Addr.mk n (0 + 52) none) = some u) ∧
 w1_1.frozen? (Addr.mk n (0 + 52) none) = false) ∧
 ∀ (w1 : World),
 PutB w1_1 n (0 + 52) [Value.int IntKind.i64 now] w1 →
 ((∃ (u : Value), w1.cell? (Addr.mk n (0 + 53) none) = some u) ∧
 w1.frozen? (Addr.mk n (0 + 53) none) = false) ∧
 ∀ (w1_2 : World),
 PutB w1 n (0 + 53) [Value.string rn] w1_2 →
 KeptL [n_2, n_1] W w1_2 ∧
 ∃ (x : Option Nat),
 (∀ (W : World),
 Loc w.heap.size
 [Blk.mk n_2 48
 [Value.int IntKind.u8 0, Value.int IntKind.u8 0, Value.int IntKind.u8 0,
 Value.int IntKind.u8 0, Value.int IntKind.u8 0, Value.int IntKind.u8 0,
 Value.int IntKind.u8 0, Value.int IntKind.u8 0, Value.int IntKind.u8 0,
 Value.int IntKind.u8 0, Value.int IntKind.u8 0, Value.int IntKind.u8 0,
 Value.int IntKind.u8 0, Value.int IntKind.u8 0, Value.int IntKind.u8 0,
 Value.int IntKind.u8 0, Value.int IntKind.u8 0, Value.int IntKind.u8 0,
 Value.int IntKind.u8 0, Value.int IntKind.u8 0, Value.int IntKind.u8 0,
 Value.int IntKind.u8 0, Value.int IntKind.u8 0, Value.int IntKind.u8 0,
 Value.int IntKind.u8 0, Value.int IntKind.u8 0, Value.int IntKind.u8 0,
 Value.int IntKind.u8 0, Value.int IntKind.u8 0, Value.int IntKind.u8 0,
 Value.int IntKind.u8 0, Value.int IntKind.u8 0, Value.string (ByteArray.mk #[]),
 Value.string (ByteArray.mk #[]), Value.int IntKind.i64 0, Value.int IntKind.i64 0,
 Value.int IntKind.u8 0, Value.int IntKind.u8 0, Value.int IntKind.u8 0,
 Value.int IntKind.u8 0, Value.int IntKind.u8 0, Value.int IntKind.u8 0,
 Value.int IntKind.u8 0, Value.int IntKind.u8 0, Value.int IntKind.u8 0,
 Value.int IntKind.u8 0, Value.int IntKind.u8 0, Value.int IntKind.u8 0,
 Value.int IntKind.u8 0, Value.int IntKind.u8 0, Value.int IntKind.u8 0,
 Value.int IntKind.u8 0, Value.int IntKind.i64 0, Value.string (ByteArray.mk #[])]
 0,
 Blk.mk n_1 45
 (arrI IntKind.u8 a 16 0)
 0]
 w1_2 W →
 W.cell? (Addr.mk b (0 + 4) none) = some (Value.map x)) ∧
 ∃ (f : Nat → Int),
 (∀ (W : World),
 Loc w.heap.size
 [Blk.mk n_2 48
 [Value.int IntKind.u8 0, Value.int IntKind.u8 0, Value.int IntKind.u8 0,
 Value.int IntKind.u8 0, Value.int IntKind.u8 0, Value.int IntKind.u8 0,
 Value.int IntKind.u8 0, Value.int IntKind.u8 0, Value.int IntKind.u8 0,
 Value.int IntKind.u8 0, Value.int IntKind.u8 0, Value.int IntKind.u8 0,
 Value.int IntKind.u8 0, Value.int IntKind.u8 0, Value.int IntKind.u8 0,
 Value.int IntKind.u8 0, Value.int IntKind.u8 0, Value.int IntKind.u8 0,
 Value.int IntKind.u8 0, Value.int IntKind.u8 0, Value.int IntKind.u8 0,
 Value.int IntKind.u8 0, Value.int IntKind.u8 0, Value.int IntKind.u8 0,
 Value.int IntKind.u8 0, Value.int IntKind.u8 0, Value.int IntKind.u8 0,
 Value.int IntKind.u8 0, Value.int IntKind.u8 0, Value.int IntKind.u8 0,
 Value.int IntKind.u8 0, Value.int IntKind.u8 0, Value.string (ByteArray.mk #[]),
 Value.string (ByteArray.mk #[]), Value.int IntKind.i64 0, Value.int IntKind.i64 0,
 Value.int IntKind.u8 0, Value.int IntKind.u8 0, Value.int IntKind.u8 0,
 Value.int IntKind.u8 0, Value.int IntKind.u8 0, Value.int IntKind.u8 0,
 Value.int IntKind.u8 0, Value.int IntKind.u8 0, Value.int IntKind.u8 0,
 Value.int IntKind.u8 0, Value.int IntKind.u8 0, Value.int IntKind.u8 0,
 Value.int IntKind.u8 0, Value.int IntKind.u8 0, Value.int IntKind.u8 0,
 Value.int IntKind.u8 0, Value.int IntKind.i64 0, Value.string (ByteArray.mk #[])]
 0,
 Blk.mk n_1 45
 (arrI IntKind.u8 a 16 0)
 0]
 w1_2 W →
 AtL W n 0
 (arrI IntKind.u8 f 32 0)) ∧
 ∃ (x_1 : ByteArray),
 (∀ (W : World),
 Loc w.heap.size
 [Blk.mk n_2 48
 [Value.int IntKind.u8 0, Value.int IntKind.u8 0, Value.int IntKind.u8 0,
 Value.int IntKind.u8 0, Value.int IntKind.u8 0, Value.int IntKind.u8 0,
 Value.int IntKind.u8 0, Value.int IntKind.u8 0, Value.int IntKind.u8 0,
 Value.int IntKind.u8 0, Value.int IntKind.u8 0, Value.int IntKind.u8 0,
 Value.int IntKind.u8 0, Value.int IntKind.u8 0, Value.int IntKind.u8 0,
 Value.int IntKind.u8 0, Value.int IntKind.u8 0, Value.int IntKind.u8 0,
 Value.int IntKind.u8 0, Value.int IntKind.u8 0, Value.int IntKind.u8 0,
 Value.int IntKind.u8 0, Value.int IntKind.u8 0, Value.int IntKind.u8 0,
 Value.int IntKind.u8 0, Value.int IntKind.u8 0, Value.int IntKind.u8 0,
 Value.int IntKind.u8 0, Value.int IntKind.u8 0, Value.int IntKind.u8 0,
 Value.int IntKind.u8 0, Value.int IntKind.u8 0, Value.string (ByteArray.mk #[]),
 Value.string (ByteArray.mk #[]), Value.int IntKind.i64 0, Value.int IntKind.i64 0,
 Value.int IntKind.u8 0, Value.int IntKind.u8 0, Value.int IntKind.u8 0,
 Value.int IntKind.u8 0, Value.int IntKind.u8 0, Value.int IntKind.u8 0,
 Value.int IntKind.u8 0, Value.int IntKind.u8 0, Value.int IntKind.u8 0,
 Value.int IntKind.u8 0, Value.int IntKind.u8 0, Value.int IntKind.u8 0,
 Value.int IntKind.u8 0, Value.int IntKind.u8 0, Value.int IntKind.u8 0,
 Value.int IntKind.u8 0, Value.int IntKind.i64 0, Value.string (ByteArray.mk #[])]
 0,
 Blk.mk n_1 45
 (arrI IntKind.u8 a 16 0)
 0]
 w1_2 W →
 W.cell? (Addr.mk n (0 + 32) none) = some (Value.string x_1)) ∧
 ∃ (f_1 : Nat → Int),
 ∃ (x_2 : ByteArray),
 ∃ (x_3 : ByteArray),
 ∃ (x_4 : Int),
 ∃ (x_5 : Int),
 ∃ (f_2 : Nat → Int),
 ∃ (x_6 : Int),
 ∃ (x_7 : ByteArray),
 (∀ (W : World),
 Loc w.heap.size
 [Blk.mk n_2 48
 [Value.int IntKind.u8 0, Value.int IntKind.u8 0, Value.int IntKind.u8 0,
 Value.int IntKind.u8 0, Value.int IntKind.u8 0, Value.int IntKind.u8 0,
 Value.int IntKind.u8 0, Value.int IntKind.u8 0, Value.int IntKind.u8 0,
 Value.int IntKind.u8 0, Value.int IntKind.u8 0, Value.int IntKind.u8 0,
 Value.int IntKind.u8 0, Value.int IntKind.u8 0, Value.int IntKind.u8 0,
 Value.int IntKind.u8 0, Value.int IntKind.u8 0, Value.int IntKind.u8 0,
 Value.int IntKind.u8 0, Value.int IntKind.u8 0, Value.int IntKind.u8 0,
 Value.int IntKind.u8 0, Value.int IntKind.u8 0, Value.int IntKind.u8 0,
 Value.int IntKind.u8 0, Value.int IntKind.u8 0, Value.int IntKind.u8 0,
 Value.int IntKind.u8 0, Value.int IntKind.u8 0, Value.int IntKind.u8 0,
 Value.int IntKind.u8 0, Value.int IntKind.u8 0,
 Value.string (ByteArray.mk #[]), Value.string (ByteArray.mk #[]),
 Value.int IntKind.i64 0, Value.int IntKind.i64 0, Value.int IntKind.u8 0,
 Value.int IntKind.u8 0, Value.int IntKind.u8 0, Value.int IntKind.u8 0,
 Value.int IntKind.u8 0, Value.int IntKind.u8 0, Value.int IntKind.u8 0,
 Value.int IntKind.u8 0, Value.int IntKind.u8 0, Value.int IntKind.u8 0,
 Value.int IntKind.u8 0, Value.int IntKind.u8 0, Value.int IntKind.u8 0,
 Value.int IntKind.u8 0, Value.int IntKind.u8 0, Value.int IntKind.u8 0,
 Value.int IntKind.i64 0, Value.string (ByteArray.mk #[])]
 0,
 Blk.mk n_1 45
 (arrI IntKind.u8 a 16 0)
 0]
 w1_2 W →
 AtL W n 0
 (arrI IntKind.u8 f_1 32 0 ++ ([Value.string x_2,
 Value.string x_3, Value.int IntKind.i64 x_4, Value.int IntKind.i64 x_5] ++ arrI IntKind.u8 f_2 16 0 ++ [Value.int IntKind.i64 x_6, Value.string x_7]))) ∧
 ∀ (W : World),
 Loc w.heap.size
 [Blk.mk n_2 48
 [Value.int IntKind.u8 0, Value.int IntKind.u8 0, Value.int IntKind.u8 0,
 Value.int IntKind.u8 0, Value.int IntKind.u8 0, Value.int IntKind.u8 0,
 Value.int IntKind.u8 0, Value.int IntKind.u8 0, Value.int IntKind.u8 0,
 Value.int IntKind.u8 0, Value.int IntKind.u8 0, Value.int IntKind.u8 0,
 Value.int IntKind.u8 0, Value.int IntKind.u8 0, Value.int IntKind.u8 0,
 Value.int IntKind.u8 0, Value.int IntKind.u8 0, Value.int IntKind.u8 0,
 Value.int IntKind.u8 0, Value.int IntKind.u8 0, Value.int IntKind.u8 0,
 Value.int IntKind.u8 0, Value.int IntKind.u8 0, Value.int IntKind.u8 0,
 Value.int IntKind.u8 0, Value.int IntKind.u8 0, Value.int IntKind.u8 0,
 Value.int IntKind.u8 0, Value.int IntKind.u8 0, Value.int IntKind.u8 0,
 Value.int IntKind.u8 0, Value.int IntKind.u8 0,
 Value.string (ByteArray.mk #[]), Value.string (ByteArray.mk #[]),
 Value.int IntKind.i64 0, Value.int IntKind.i64 0, Value.int IntKind.u8 0,
 Value.int IntKind.u8 0, Value.int IntKind.u8 0, Value.int IntKind.u8 0,
 Value.int IntKind.u8 0, Value.int IntKind.u8 0, Value.int IntKind.u8 0,
 Value.int IntKind.u8 0, Value.int IntKind.u8 0, Value.int IntKind.u8 0,
 Value.int IntKind.u8 0, Value.int IntKind.u8 0, Value.int IntKind.u8 0,
 Value.int IntKind.u8 0, Value.int IntKind.u8 0, Value.int IntKind.u8 0,
 Value.int IntKind.i64 0, Value.string (ByteArray.mk #[])]
 0,
 Blk.mk n_1 45
 (arrI IntKind.u8 a 16 0)
 0]
 w1_2 W →
 ∃ (w1 : World),
 UpdP Tryz.prog 96 (Value.map x)
 (Value.agg
 (arrI IntKind.u8 f 32 0 ++ [Value.string x_1]).toArray)
 (Value.agg
 (arrI IntKind.u8 f_1 32 0 ++ ([Value.string x_2, Value.string x_3, Value.int IntKind.i64 x_4,
 Value.int IntKind.i64 x_5] ++ arrI IntKind.u8 f_2 16 0 ++ [Value.int IntKind.i64 x_6, Value.string x_7,
 Value.bool false, Value.int IntKind.u8 0, Value.int IntKind.u8 0,
 Value.int IntKind.u8 0, Value.int IntKind.u8 0, Value.int IntKind.u8 0,
 Value.int IntKind.u8 0, Value.int IntKind.u8 0, Value.int IntKind.u8 0,
 Value.int IntKind.u8 0, Value.int IntKind.u8 0, Value.int IntKind.u8 0,
 Value.int IntKind.u8 0, Value.int IntKind.u8 0, Value.int IntKind.u8 0,
 Value.int IntKind.u8 0, Value.int IntKind.u8 0, Value.int IntKind.i64 0])).toArray)
 W w1 ∧
 KeptL [n_2, n_1] W w1 ∧
 ∃ (x : Int),
 w1.cell? (Addr.mk b (0 + 2) none) = some (Value.int IntKind.i64 x) ∧
 ((∃ (u : Value), w1.cell? (Addr.mk b (0 + 2) none) = some u) ∧
 w1.frozen? (Addr.mk b (0 + 2) none) = false) ∧
 ∀ (w1_3 : World),
 PutB w1 b (0 + 2) [Value.int IntKind.i64 (IntKind.i64.wrap (x - 1))] w1_3 →
 KeptL [n_2, n_1] w1 w1_3 ∧
 ∃ (f : Nat → Int),
 ∃ (x : ByteArray),
 ∃ (x_8 : ByteArray),
 ∃ (x_9 : Int),
 ∃ (x_10 : Int),
 ∃ (f_3 : Nat → Int),
 ∃ (x_11 : Int),
 ∃ (x_12 : ByteArray),
 AtL w1_3 n 0
 (arrI IntKind.u8 f 32 0 ++ ([Value.string x, Value.string x_8, Value.int IntKind.i64 x_9,
 Value.int IntKind.i64 x_10] ++ arrI IntKind.u8 f_3 16 0 ++ [Value.int IntKind.i64 x_11,
 Value.string x_12])) ∧
 ∀ (W : World),
 Loc w.heap.size
 [Blk.mk n_2 48
 (arrI IntKind.u8 f 32 0 ++ ([Value.string x, Value.string x_8,
 Value.int IntKind.i64 x_9, Value.int IntKind.i64 x_10] ++ arrI IntKind.u8 f_3 16 0 ++ [Value.int IntKind.i64 x_11,
 Value.string x_12]))
 (wrM 0),
 Blk.mk n_1 45
 (arrI IntKind.u8 a 16 0)
 0]
 w1_3 W →
 R
 (Ending.returned
 (Value.agg
 (arrI IntKind.u8 f 32 0 ++ ([Value.string x, Value.string x_8,
 Value.int IntKind.i64 x_9, Value.int IntKind.i64 x_10] ++ arrI IntKind.u8 f_3 16 0 ++ [Value.int IntKind.i64 x_11,
 Value.string x_12])).toArray))
 W
theorem vc_finish (b : Nat) (id : Nat → Int) (mo : Nat → Int) (g : ByteArray) (t : ByteArray) (r : Int) (st : Int) (de : Int) (rs : ByteArray) (a : Nat → Int) (now : Int) (sn : Int) (rn : ByteArray) (w : World) (R : Ending → World → Prop) (h : VC_finish b id mo g t r st de rs a now sn rn w R) : Calls Tryz.prog 70 ([Value.pointer
    (some { block := b, off := 0 }),
  Value.agg
    (arrI IntKind.u8 id 32 0 ++
        ([Value.string g, Value.string t, Value.int IntKind.i64 r, Value.int IntKind.i64 st] ++
          (arrI IntKind.u8 mo 16 0 ++ [Value.int IntKind.i64 de, Value.string rs]))).toArray,
  Value.agg (arrI IntKind.u8 a 16 0).toArray, Value.int IntKind.i64 now, Value.int IntKind.i64 sn,
  Value.string rn] : List Value).toArray w R := by
  have e : execR2 { P := Tryz.prog, loops := [], pur := pur1, tails := [(1, 5), (2, 11)], joins := [], boxes := [] } Tryz.f70.results.toList R (Tryz.f70.body.getD .skip) (initF [Value.pointer
    (some { block := b, off := 0 }),
  Value.agg
    (arrI IntKind.u8 id 32 0 ++
        ([Value.string g, Value.string t, Value.int IntKind.i64 r, Value.int IntKind.i64 st] ++
          (arrI IntKind.u8 mo 16 0 ++ [Value.int IntKind.i64 de, Value.string rs]))).toArray,
  Value.agg (arrI IntKind.u8 a 16 0).toArray, Value.int IntKind.i64 now, Value.int IntKind.i64 sn,
  Value.string
    rn] (Tryz.f70.ntmps - ([Value.pointer (some { block := b, off := 0 }),
  Value.agg
    (arrI IntKind.u8 id 32 0 ++
        ([Value.string g, Value.string t, Value.int IntKind.i64 r, Value.int IntKind.i64 st] ++
          (arrI IntKind.u8 mo 16 0 ++ [Value.int IntKind.i64 de, Value.string rs]))).toArray,
  Value.agg (arrI IntKind.u8 a 16 0).toArray, Value.int IntKind.i64 now, Value.int IntKind.i64 sn,
  Value.string rn] : List Value).length)) w = VC_finish b id mo g t r st de rs a now sn rn w R := by kernel_rfl
  have hb : Tryz.f70.body = some (Tryz.f70.body.getD .skip) := by kernel_rfl
  exact calls_of_exec2' (P := Tryz.prog) (fn := Tryz.f70) (c := Tryz.f70.body.getD .skip) (args := [Value.pointer
    (some { block := b, off := 0 }),
  Value.agg
    (arrI IntKind.u8 id 32 0 ++
        ([Value.string g, Value.string t, Value.int IntKind.i64 r, Value.int IntKind.i64 st] ++
          (arrI IntKind.u8 mo 16 0 ++ [Value.int IntKind.i64 de, Value.string rs]))).toArray,
  Value.agg (arrI IntKind.u8 a 16 0).toArray, Value.int IntKind.i64 now, Value.int IntKind.i64 sn,
  Value.string rn]) (w := w) (R := R) pur1_ok Tryz.func70 hb e h

def VC_approve (b : Nat) (i : Nat → Int) (s : ByteArray) (a : Nat → Int) (now : Int) (w : World) (R : Ending → World → Prop) : Prop :=
 ∀ (n n_1 n_2 : Nat) (W : World),
 Loc w.heap.size
 [Blk.mk n_2 42
 [Value.int IntKind.i64 0, Value.int IntKind.u8 0, Value.int IntKind.u8 0, Value.int IntKind.u8 0,
 Value.int IntKind.u8 0, Value.int IntKind.u8 0, Value.int IntKind.u8 0, Value.int IntKind.u8 0,
 Value.int IntKind.u8 0, Value.int IntKind.u8 0, Value.int IntKind.u8 0, Value.int IntKind.u8 0,
 Value.int IntKind.u8 0, Value.int IntKind.u8 0, Value.int IntKind.u8 0, Value.int IntKind.u8 0,
 Value.int IntKind.u8 0, Value.int IntKind.u8 0, Value.int IntKind.u8 0, Value.int IntKind.u8 0,
 Value.int IntKind.u8 0, Value.int IntKind.u8 0, Value.int IntKind.u8 0, Value.int IntKind.u8 0,
 Value.int IntKind.u8 0, Value.int IntKind.u8 0, Value.int IntKind.u8 0, Value.int IntKind.u8 0,
 Value.int IntKind.u8 0, Value.int IntKind.u8 0, Value.int IntKind.u8 0, Value.int IntKind.u8 0,
 Value.int IntKind.u8 0, Value.string (ByteArray.mk #[]), Value.int IntKind.i64 0, Value.bool false,
 Value.slice none 0 0, Value.string (ByteArray.mk #[]), Value.int IntKind.i64 0, Value.int IntKind.i64 0,
 Value.int IntKind.u8 0, Value.int IntKind.u8 0, Value.int IntKind.u8 0, Value.int IntKind.u8 0,
 Value.int IntKind.u8 0, Value.int IntKind.u8 0, Value.int IntKind.u8 0, Value.int IntKind.u8 0,
 Value.int IntKind.u8 0, Value.int IntKind.u8 0, Value.int IntKind.u8 0, Value.int IntKind.u8 0,
 Value.int IntKind.u8 0, Value.int IntKind.u8 0, Value.int IntKind.u8 0, Value.int IntKind.u8 0]
 2,
 Blk.mk n_1 45
 (arrI IntKind.u8 a 16 0)
 2,
 Blk.mk n 32
 (arrI IntKind.u8 i 32 0)
 2]
 w W →
 CallsS Tryz.prog 48 #[Value.pointer (some (Addr.mk b 0 none)), Value.int IntKind.i64 now] W
 fun (e : Ending) (w' : World) =>
 ∃ (x : Int),
 e = Ending.returned (Value.int IntKind.i64 x) ∧
 KeptL [n_2, n_1, n] W w' ∧
 bsp (x != 0)
 (∀ (W : World),
 Loc w.heap.size
 [Blk.mk n_2 42
 [Value.int IntKind.i64 0, Value.int IntKind.u8 0, Value.int IntKind.u8 0, Value.int IntKind.u8 0,
 Value.int IntKind.u8 0, Value.int IntKind.u8 0, Value.int IntKind.u8 0, Value.int IntKind.u8 0,
 Value.int IntKind.u8 0, Value.int IntKind.u8 0, Value.int IntKind.u8 0, Value.int IntKind.u8 0,
 Value.int IntKind.u8 0, Value.int IntKind.u8 0, Value.int IntKind.u8 0, Value.int IntKind.u8 0,
 Value.int IntKind.u8 0, Value.int IntKind.u8 0, Value.int IntKind.u8 0, Value.int IntKind.u8 0,
 Value.int IntKind.u8 0, Value.int IntKind.u8 0, Value.int IntKind.u8 0, Value.int IntKind.u8 0,
 Value.int IntKind.u8 0, Value.int IntKind.u8 0, Value.int IntKind.u8 0, Value.int IntKind.u8 0,
 Value.int IntKind.u8 0, Value.int IntKind.u8 0, Value.int IntKind.u8 0, Value.int IntKind.u8 0,
 Value.int IntKind.u8 0, Value.string (ByteArray.mk #[]), Value.int IntKind.i64 0, Value.bool false,
 Value.slice none 0 0, Value.string (ByteArray.mk #[]), Value.int IntKind.i64 0, Value.int IntKind.i64 0,
 Value.int IntKind.u8 0, Value.int IntKind.u8 0, Value.int IntKind.u8 0, Value.int IntKind.u8 0,
 Value.int IntKind.u8 0, Value.int IntKind.u8 0, Value.int IntKind.u8 0, Value.int IntKind.u8 0,
 Value.int IntKind.u8 0, Value.int IntKind.u8 0, Value.int IntKind.u8 0, Value.int IntKind.u8 0,
 Value.int IntKind.u8 0, Value.int IntKind.u8 0, Value.int IntKind.u8 0, Value.int IntKind.u8 0]
 (wrM 0),
 Blk.mk n_1 45
 (arrI IntKind.u8 a 16 0)
 0,
 Blk.mk n 32
 (arrI IntKind.u8 i 32 0)
 0]
 w' W →
 R
 (Ending.returned
 (Value.tuple
 #[Value.agg
 #[Value.int IntKind.i64 0, Value.int IntKind.u8 0, Value.int IntKind.u8 0, Value.int IntKind.u8 0,
 Value.int IntKind.u8 0, Value.int IntKind.u8 0, Value.int IntKind.u8 0, Value.int IntKind.u8 0,
 Value.int IntKind.u8 0, Value.int IntKind.u8 0, Value.int IntKind.u8 0, Value.int IntKind.u8 0,
 Value.int IntKind.u8 0, Value.int IntKind.u8 0, Value.int IntKind.u8 0, Value.int IntKind.u8 0,
 Value.int IntKind.u8 0, Value.int IntKind.u8 0, Value.int IntKind.u8 0, Value.int IntKind.u8 0,
 Value.int IntKind.u8 0, Value.int IntKind.u8 0, Value.int IntKind.u8 0, Value.int IntKind.u8 0,
 Value.int IntKind.u8 0, Value.int IntKind.u8 0, Value.int IntKind.u8 0, Value.int IntKind.u8 0,
 Value.int IntKind.u8 0, Value.int IntKind.u8 0, Value.int IntKind.u8 0, Value.int IntKind.u8 0,
 Value.int IntKind.u8 0, Value.string (ByteArray.mk #[]), Value.int IntKind.i64 0, Value.bool false,
 Value.slice none 0 0, Value.string (ByteArray.mk #[]), Value.int IntKind.i64 0, Value.int IntKind.i64 0,
 Value.int IntKind.u8 0, Value.int IntKind.u8 0, Value.int IntKind.u8 0, Value.int IntKind.u8 0,
 Value.int IntKind.u8 0, Value.int IntKind.u8 0, Value.int IntKind.u8 0, Value.int IntKind.u8 0,
 Value.int IntKind.u8 0, Value.int IntKind.u8 0, Value.int IntKind.u8 0, Value.int IntKind.u8 0,
 Value.int IntKind.u8 0, Value.int IntKind.u8 0, Value.int IntKind.u8 0, Value.int IntKind.u8 0],
 Value.int IntKind.i64 x]))
 W)
 (CallsS Tryz.prog 50
 #[Value.pointer (some (Addr.mk b 0 none)),
 Value.agg
 (arrI IntKind.u8 i 32 0).toArray,
 Value.string s,
 Value.agg
 (arrI IntKind.u8 a 16 0).toArray,
 Value.int IntKind.i64 now, Value.int IntKind.i64 1, Value.string (ByteArray.mk #[])]
 w' fun (e : Ending) (w'_1 : World) =>
 ∃ (x : Int),
 e = Ending.returned (Value.int IntKind.i64 x) ∧
 KeptL [n_2, n_1, n] w' w'_1 ∧
 bsp (x != 0)
 (∀ (W : World),
 Loc w.heap.size
 [Blk.mk n_2 42
 [Value.int IntKind.i64 0, Value.int IntKind.u8 0, Value.int IntKind.u8 0, Value.int IntKind.u8 0,
 Value.int IntKind.u8 0, Value.int IntKind.u8 0, Value.int IntKind.u8 0, Value.int IntKind.u8 0,
 Value.int IntKind.u8 0, Value.int IntKind.u8 0, Value.int IntKind.u8 0, Value.int IntKind.u8 0,
 Value.int IntKind.u8 0, Value.int IntKind.u8 0, Value.int IntKind.u8 0, Value.int IntKind.u8 0,
 Value.int IntKind.u8 0, Value.int IntKind.u8 0, Value.int IntKind.u8 0, Value.int IntKind.u8 0,
 Value.int IntKind.u8 0, Value.int IntKind.u8 0, Value.int IntKind.u8 0, Value.int IntKind.u8 0,
 Value.int IntKind.u8 0, Value.int IntKind.u8 0, Value.int IntKind.u8 0, Value.int IntKind.u8 0,
 Value.int IntKind.u8 0, Value.int IntKind.u8 0, Value.int IntKind.u8 0, Value.int IntKind.u8 0,
 Value.int IntKind.u8 0, Value.string (ByteArray.mk #[]), Value.int IntKind.i64 0, Value.bool false,
 Value.slice none 0 0, Value.string (ByteArray.mk #[]), Value.int IntKind.i64 0,
 Value.int IntKind.i64 0, Value.int IntKind.u8 0, Value.int IntKind.u8 0, Value.int IntKind.u8 0,
 Value.int IntKind.u8 0, Value.int IntKind.u8 0, Value.int IntKind.u8 0, Value.int IntKind.u8 0,
 Value.int IntKind.u8 0, Value.int IntKind.u8 0, Value.int IntKind.u8 0, Value.int IntKind.u8 0,
 Value.int IntKind.u8 0, Value.int IntKind.u8 0, Value.int IntKind.u8 0, Value.int IntKind.u8 0,
 Value.int IntKind.u8 0]
 (wrM 0),
 Blk.mk n_1 45
 (arrI IntKind.u8 a 16 0)
 0,
 Blk.mk n 32
 (arrI IntKind.u8 i 32 0)
 0]
 w'_1 W →
 R
 (Ending.returned
 (Value.tuple
 #[Value.agg
 #[Value.int IntKind.i64 0, Value.int IntKind.u8 0, Value.int IntKind.u8 0, Value.int IntKind.u8 0,
 Value.int IntKind.u8 0, Value.int IntKind.u8 0, Value.int IntKind.u8 0, Value.int IntKind.u8 0,
 Value.int IntKind.u8 0, Value.int IntKind.u8 0, Value.int IntKind.u8 0, Value.int IntKind.u8 0,
 Value.int IntKind.u8 0, Value.int IntKind.u8 0, Value.int IntKind.u8 0, Value.int IntKind.u8 0,
 Value.int IntKind.u8 0, Value.int IntKind.u8 0, Value.int IntKind.u8 0, Value.int IntKind.u8 0,
 Value.int IntKind.u8 0, Value.int IntKind.u8 0, Value.int IntKind.u8 0, Value.int IntKind.u8 0,
 Value.int IntKind.u8 0, Value.int IntKind.u8 0, Value.int IntKind.u8 0, Value.int IntKind.u8 0,
 Value.int IntKind.u8 0, Value.int IntKind.u8 0, Value.int IntKind.u8 0, Value.int IntKind.u8 0,
 Value.int IntKind.u8 0, Value.string (ByteArray.mk #[]), Value.int IntKind.i64 0, Value.bool false,
 Value.slice none 0 0, Value.string (ByteArray.mk #[]), Value.int IntKind.i64 0,
 Value.int IntKind.i64 0, Value.int IntKind.u8 0, Value.int IntKind.u8 0, Value.int IntKind.u8 0,
 Value.int IntKind.u8 0, Value.int IntKind.u8 0, Value.int IntKind.u8 0, Value.int IntKind.u8 0,
 Value.int IntKind.u8 0, Value.int IntKind.u8 0, Value.int IntKind.u8 0, Value.int IntKind.u8 0,
 Value.int IntKind.u8 0, Value.int IntKind.u8 0, Value.int IntKind.u8 0, Value.int IntKind.u8 0,
 Value.int IntKind.u8 0],
 Value.int IntKind.i64 x]))
 W)
 (∀ (W : World),
 Loc w.heap.size
 [Blk.mk n_2 42
 ([Value.int IntKind.i64 2] ++ arrI IntKind.u8 i 32 0 ++ [Value.string s,
 Value.int IntKind.i64 0, Value.bool false, Value.slice none 0 0, Value.string (ByteArray.mk #[]),
 Value.int IntKind.i64 0, Value.int IntKind.i64 0, Value.int IntKind.u8 0, Value.int IntKind.u8 0,
 Value.int IntKind.u8 0, Value.int IntKind.u8 0, Value.int IntKind.u8 0, Value.int IntKind.u8 0,
 Value.int IntKind.u8 0, Value.int IntKind.u8 0, Value.int IntKind.u8 0, Value.int IntKind.u8 0,
 Value.int IntKind.u8 0, Value.int IntKind.u8 0, Value.int IntKind.u8 0, Value.int IntKind.u8 0,
 Value.int IntKind.u8 0, Value.int IntKind.u8 0])
 (wrM 0),
 Blk.mk n_1 45
 (arrI IntKind.u8 a 16 0)
 0,
 Blk.mk n 32
 (arrI IntKind.u8 i 32 0)
 0]
 w'_1 W →
 R
 (Ending.returned
 (Value.tuple
 #[Value.agg
 ([Value.int IntKind.i64 2] ++ arrI IntKind.u8 i 32 0 ++ [Value.string s, Value.int IntKind.i64 0, Value.bool false, Value.slice none 0 0,
 Value.string (ByteArray.mk #[]), Value.int IntKind.i64 0, Value.int IntKind.i64 0,
 Value.int IntKind.u8 0, Value.int IntKind.u8 0, Value.int IntKind.u8 0, Value.int IntKind.u8 0,
 Value.int IntKind.u8 0, Value.int IntKind.u8 0, Value.int IntKind.u8 0, Value.int IntKind.u8 0,
 Value.int IntKind.u8 0, Value.int IntKind.u8 0, Value.int IntKind.u8 0, Value.int IntKind.u8 0,
 Value.int IntKind.u8 0, Value.int IntKind.u8 0, Value.int IntKind.u8 0, Value.int IntKind.u8 0]).toArray,
 Value.int IntKind.i64 0]))
 W))
theorem vc_approve (b : Nat) (i : Nat → Int) (s : ByteArray) (a : Nat → Int) (now : Int) (w : World) (R : Ending → World → Prop) (h : VC_approve b i s a now w R) : Calls Tryz.prog 19 ([Value.pointer
    (some { block := b, off := 0 }),
  Value.agg (arrI IntKind.u8 i 32 0).toArray, Value.string s, Value.agg (arrI IntKind.u8 a 16 0).toArray,
  Value.int IntKind.i64 now] : List Value).toArray w R := by
  have e : execR2 { P := Tryz.prog, loops := [], pur := pur1, tails := [], joins := [], boxes := [] } Tryz.f19.results.toList R (Tryz.f19.body.getD .skip) (initF [Value.pointer
    (some { block := b, off := 0 }),
  Value.agg (arrI IntKind.u8 i 32 0).toArray, Value.string s, Value.agg (arrI IntKind.u8 a 16 0).toArray,
  Value.int IntKind.i64
    now] (Tryz.f19.ntmps - ([Value.pointer (some { block := b, off := 0 }), Value.agg (arrI IntKind.u8 i 32 0).toArray,
  Value.string s, Value.agg (arrI IntKind.u8 a 16 0).toArray,
  Value.int IntKind.i64 now] : List Value).length)) w = VC_approve b i s a now w R := by kernel_rfl
  have hb : Tryz.f19.body = some (Tryz.f19.body.getD .skip) := by kernel_rfl
  exact calls_of_exec2' (P := Tryz.prog) (fn := Tryz.f19) (c := Tryz.f19.body.getD .skip) (args := [Value.pointer
    (some { block := b, off := 0 }),
  Value.agg (arrI IntKind.u8 i 32 0).toArray, Value.string s, Value.agg (arrI IntKind.u8 a 16 0).toArray,
  Value.int IntKind.i64 now]) (w := w) (R := R) pur1_ok Tryz.func19 hb e h

end Go.Proofs.YtfacflbmlfbeeaaGreatDoor

/- Chapter 39: the contracts of finish, decide, Approve. The library's variable MaxLen holds a number. -/
namespace Go.Proofs.YtfacflbmlfbeeaaGreatDoor
open Go.RowKit Go.Sort Go.Maps

theorem putL_mid : ∀ (vs a b c : List Value), vs.length = b.length → putL (a ++ (b ++ c)) a.length vs = a ++ (vs ++ c)
  | [], a, b, c, h => by
    have : b = [] := List.eq_nil_of_length_eq_zero h.symm
    subst this; rfl
  | v :: r, a, [], c, h => by simp at h
  | v :: r, a, x :: b, c, h => by
    have ih := putL_mid r (a ++ [v]) b c (by simpa using h)
    simp only [putL]
    have e : (a ++ (x :: b ++ c)).set a.length v = (a ++ [v]) ++ (b ++ c) := by
      rw [List.set_append_right _ _ (Nat.le_refl _), Nat.sub_self]
      simp
    rw [e, show a.length + 1 = (a ++ [v]).length by simp, ih]
    simp
theorem put_mo {w w1 : World} {n : Nat} {x : Sb} {a : Nat → Int} {t : TypeId} (h : w.heap[n]? = some (.cells (sbC x).toArray t (0, 0))) (hp : PutB w n (0 + 36) (arrI .u8 a 16 0) w1) : w1.heap[n]? = some (.cells (sbC { x with mo := a }).toArray t (0, 0)) := by
  have h1 := hp.block h
  have e1 : (sbC x).toArray.toList = (arrI .u8 x.id 32 0 ++ ([.string x.g, .string x.tx, .int .i64 x.r, .int .i64 x.st] : List Value)) ++ (arrI .u8 x.mo 16 0 ++ ([.int .i64 x.de, .string x.rs] : List Value)) := by
    unfold sbC
    simp only [List.append_assoc]
  have e2 := putL_mid (arrI .u8 a 16 0) (arrI .u8 x.id 32 0 ++ ([.string x.g, .string x.tx, .int .i64 x.r, .int .i64 x.st] : List Value)) (arrI .u8 x.mo 16 0) ([.int .i64 x.de, .string x.rs] : List Value) rfl
  rw [e1, show 0 + 36 = (arrI .u8 x.id 32 0 ++ ([.string x.g, .string x.tx, .int .i64 x.r, .int .i64 x.st] : List Value)).length from rfl, e2] at h1
  rw [h1]
  unfold sbC
  simp only [List.append_assoc]
/-- A submission that is decided. -/
def finS39 (x : Sb) (a : Nat → Int) (now st : Int) (rs : ByteArray) : Sb := { x with st := st, mo := a, de := now, rs := rs }
def plainE (x : Sb) : En := ⟨x, false, fun _ => 0, 0⟩
def finQ (q : Qu) (x : Sb) : Qu := { q with es := aset q.es x.ky (plainE x), wt := q.wt - 1 }
set_option maxHeartbeats 2000000 in
set_option maxRecDepth 100000 in
theorem finish_any {w : World} {b mb eb : Nat} {q : Qu} (h : Mq w b mb eb q) (hwt : 1 ≤ q.wt ∧ q.wt ≤ 10000) (x : Sb) (hx : BY x.id) (hg : x.g.size ≤ 1073741824) (a : Nat → Int) (now st : Int) (rs : ByteArray) :
    Calls Tryz.prog 70 #[.pointer (some ⟨b, 0, none⟩), sbV x, .agg (arrI .u8 a 16 0).toArray, .int .i64 now, .int .i64 st, .string rs] w fun e w' => e = .returned (sbV (finS39 x a now st rs)) ∧ Mq w' b mb eb (finQ q (finS39 x a now st rs)) ∧ Kp (QB b mb eb) w w' := by
  refine vc_finish b x.id x.mo x.g x.tx x.r x.st x.de x.rs a now st rs w _ (fun n n1 n2 W hW => ?_)
  have kW : K0 w W := hW.kk rfl
  have c0 := hW.cells 0 rfl
  have c1 := hW.cells 1 rfl
  have c2 := hW.cells 2 rfl
  have g2 : w.heap.size ≤ n := hW.fresh 2 rfl rfl
  have a12 := hW.apart 1 2 rfl rfl (by decide)
  have a02 := hW.apart 0 2 rfl rfl (by decide)
  simp only at a12 a02
  refine ⟨fun wx => Kp (· = n) W wx, .refl _ _, a, fun wx k => AtL_block (k.blk c1 (fun e => a12 e)) rfl, ⟨⟨_, cell_at c2 rfl⟩, frozen_block c2 _⟩, fun w1 p1 => ⟨p1.kp, ?_⟩⟩
  have d1 : w1.heap[n]? = some (.cells (sbC { x with st := st }).toArray 48 (0, 0)) := p1.block c2
  refine ⟨WrL_block d1 (by show 0 + 36 + 16 ≤ 54; omega), fun w2 p2 => ?_⟩
  have d2 : w2.heap[n]? = some (.cells (sbC { x with st := st, mo := a }).toArray 48 (0, 0)) := put_mo d1 p2
  refine ⟨⟨⟨_, cell_at d2 rfl⟩, frozen_block d2 _⟩, fun w3 p3 => ?_⟩
  have d3 : w3.heap[n]? = some (.cells (sbC { x with st := st, mo := a, de := now }).toArray 48 (0, 0)) := p3.block d2
  refine ⟨⟨⟨_, cell_at d3 rfl⟩, frozen_block d3 _⟩, fun w4 p4 => ?_⟩
  have d4 : w4.heap[n]? = some (.cells (sbC (finS39 x a now st rs)).toArray 48 (0, 0)) := p4.block d3
  have k4 : Kp (· = n) W w4 := ((p1.kp.trans p2.kp).trans p3.kp).trans p4.kp
  have k04 : K0 w w4 := kW.fresh k4 (fun i hi e => by omega)
  have h4 := h.k0 k04
  have b0 := k4.blk c0 a02
  have b1 := k4.blk c1 a12
  generalize hX : finS39 x a now st rs = X at d4 ⊢
  have hXi : X.id = x.id := by rw [← hX]; rfl
  have hXg : X.g = x.g := by rw [← hX]; rfl
  refine ⟨.of_kp k4 (fun z hz => ?_), some eb, fun W5 hW5 => (h4.k0 (hW5.kk rfl)).cE, X.id, fun W5 hW5 => AtL_block ((hW5.kk rfl : K0 w4 W5).blk d4 (fun h => h)) rfl, X.g, fun W5 hW5 => cell_at ((hW5.kk rfl : K0 w4 W5).blk d4 (fun h => h)) rfl, X.id, X.g, X.tx, X.r, X.st, X.mo, X.de, X.rs, fun W5 hW5 => AtL_block ((hW5.kk rfl : K0 w4 W5).blk d4 (fun h => h)) rfl, fun W5 hW5 => ?_⟩
  · simp only [List.mem_cons, List.not_mem_nil, or_false] at hz
    rcases hz with rfl | rfl
    · exact a02
    · exact a12
  have k5 : K0 w4 W5 := hW5.kk rfl
  have h5 := h4.k0 k5
  have e0 := hW5.cells 0 rfl
  have e1 := hW5.cells 1 rfl
  have e4 := k5.blk d4 (fun h => h)
  obtain ⟨w6, hu, h6, k6⟩ := h5.updE (plainE X) (f := X.id) (by rw [hXi]; exact hx) (g := X.g) (by rw [hXg]; exact hg)
  have neE : ∀ {z : Nat} {c : Array Value} {t : TypeId} {f : Nat × Nat}, W5.heap[z]? = some (.cells c t f) → z ≠ eb := fun hz e => by
    obtain ⟨es, k, hb, _⟩ := h5.me.blk
    rw [e, hb] at hz; cases hz
  have f0 := k6.blk e0 (neE e0)
  have f1 := k6.blk e1 (neE e1)
  have f4 := k6.blk e4 (neE e4)
  refine ⟨w6, hu, h5.kept k6 (fun k e => .inr (.inr e)) (fun z hz => ?_), q.wt, h6.cW, h6.wrW, fun w7 p7 => ⟨h6.kept p7.kp (fun k e => .inl e) (fun z hz => ?_), X.id, X.g, X.tx, X.r, X.st, X.mo, X.de, X.rs, ?_, fun W8 hW8 => ⟨rfl, ?_⟩⟩⟩
  · simp only [List.mem_cons, List.not_mem_nil, or_false] at hz
    rcases hz with rfl | rfl
    · exact ⟨_, _, _, e0, rfl⟩
    · exact ⟨_, _, _, e1, rfl⟩
  · simp only [List.mem_cons, List.not_mem_nil, or_false] at hz
    rcases hz with rfl | rfl
    · exact ⟨_, _, _, f0, rfl⟩
    · exact ⟨_, _, _, f1, rfl⟩
  · exact AtL_block (p7.kp.blk f4 (fun e => by have hs := h6.st; have e : n = b := e; rw [e, hs] at f4; simp at f4)) rfl
  · rw [wr64 (by omega) (by omega)] at p7
    have h7 := h6.putW p7
    have k7 : Kp (QB b mb eb) w w7 := ((k04.trans k5).q0.trans (k6.qb (fun k e => .inr (.inr e)))).trans (p7.kp.qb (fun k e => .inl e))
    exact h.loc h7 rfl k7 hW8

/-! ### decide, Approve -/
def decE (q : Qu) (id : Nat → Int) (g : ByteArray) (a : Nat → Int) (now : Int) : Int :=
  if isMB (q.md g) a = false then 20 else if (aget q.es (idI id, g)).isSome = false then 8 else if (q.en (idI id, g)).s.st ≠ 0 then 10 else if blk (q.en (idI id, g)) (auI a) now = true then 25 else 0
def decQ (q : Qu) (id : Nat → Int) (g : ByteArray) (a : Nat → Int) (now st : Int) (rs : ByteArray) : Qu :=
  if decE q id g a now = 0 then finQ q (finS39 (q.en (idI id, g)).s a now st rs) else q
theorem Qu.OK.en {q : Qu} (h : q.OK) {k : Ky} (hs : (aget q.es k).isSome = true) : (q.en k).OK ∧ k = (q.en k).s.ky := by
  unfold Qu.en
  cases hgt : aget q.es k with
  | none => rw [hgt] at hs; cases hs
  | some x =>
    have := h.es k x hgt
    exact ⟨this.1, this.2.1⟩
theorem cnt_pos {l : List (Ky × En)} {P : Ky × En → Bool} {p : Ky × En} (hm : p ∈ l) (hp : P p = true) : 1 ≤ (l.filter P).length := List.length_pos_iff.2 (List.ne_nil_of_mem (List.mem_filter.2 ⟨hm, hp⟩))
set_option maxHeartbeats 2000000 in
set_option maxRecDepth 100000 in
theorem decide_any39 {w : World} {b mb eb : Nat} {q : Qu} (h : Mq w b mb eb q) (ho : q.OK) (hln : q.es.length ≤ 10000) (id : Nat → Int) (hid : BY id) (g : ByteArray) (hg : g.size ≤ 1073741824) (a : Nat → Int) (ha : BY a) (now : Int) (hn : 0 ≤ now ∧ now ≤ 105190559) (st : Int) (rs : ByteArray) :
    Calls Tryz.prog 50 #[.pointer (some ⟨b, 0, none⟩), .agg (arrI .u8 id 32 0).toArray, .string g, .agg (arrI .u8 a 16 0).toArray, .int .i64 now, .int .i64 st, .string rs] w fun e w' => e = .returned (.int .i64 (decE q id g a now)) ∧ Mq w' b mb eb (decQ q id g a now st rs) ∧ Kp (QB b mb eb) w w' := by
  refine vc_decide b id g a now st rs w _ (fun n n1 W hW => ?_)
  have kW : K0 w W := hW.kk rfl
  have c0 := hW.cells 0 rfl
  have c1 := hW.cells 1 rfl
  unfold decQ decE
  refine ⟨(ismod_any (h.k0 kW) ho g hg a ha).mono fun e w1 ⟨he, k1⟩ => ⟨_, he, .of_k0 k1, bsp_intro (fun h1 => ?_) (fun h1 W2 hW2 => ?_)⟩⟩
  · have h1 : isMB (q.md g) a = false := by simpa using h1
    rw [if_pos h1, if_neg (by decide)]
    exact ⟨rfl, h.k0 (kW.trans k1), (kW.trans k1).q0⟩
  have h1 : isMB (q.md g) a = true := by simpa using h1
  rw [h1, if_neg (by decide)]
  have k2 : K0 w W2 := hW2.k0 (kW.trans k1)
  have h2 := h.k0 k2
  have d0 := hW2.cells 0 rfl
  have d1 := hW2.cells 1 rfl
  have heq : q.en (idI id, g) = q.en (idI id, g) := rfl
  generalize hX : q.en (idI id, g) = X at heq
  refine ⟨fun wx => K0 W2 wx, .refl _ _, some eb, fun wx k => (h2.k0 k).cE, id, fun wx k => AtL_block (k.blk d1 (fun h => h)) rfl, X.s.id, X.s.g, X.s.tx, X.s.r, X.s.st, X.s.mo, X.s.de, X.s.rs, X.le, X.ho, X.si, (aget q.es (idI id, g)).isSome, fun wx k => by have := (h2.k0 k).lookE hid hg; rw [hX] at this; exact this, fun n4 w4 hn4 => ⟨hn4.kp _, WrL_block hn4.block (by show 0 + 72 ≤ 72; omega), fun w5 p5 => ?_⟩⟩
  have k5 : K0 W2 w5 := put_k0 (hn4.kp _) p5 hn4.ge
  have b4 : w5.heap[n4]? = some (.cells (enC X).toArray 107 (0, 0)) := p5.full hn4.block rfl
  have k05 := k2.trans k5
  have h5 := h.k0 k05
  have e0 := k5.blk d0 (fun h => h)
  have e1 := k5.blk d1 (fun h => h)
  refine ⟨.of_k0 k5, bsp_intro (fun h3 => ?_) (fun h3 => ⟨X.s.st, cell_at b4 rfl, bsp_intro (fun h4 => ?_) (fun h4 => ?_)⟩)⟩
  · have h3 : (aget q.es (idI id, g)).isSome = false := by simpa using h3
    rw [if_pos h3, if_neg (by decide)]
    exact ⟨rfl, h5, k05.q0⟩
  · have h3 : (aget q.es (idI id, g)).isSome = true := by simpa using h3
    have h4 : X.s.st ≠ 0 := by simpa using h4
    rw [if_neg (by rw [h3]; decide), if_pos h4, if_neg (by decide)]
    exact ⟨rfl, h5, k05.q0⟩
  have h3 : (aget q.es (idI id, g)).isSome = true := by simpa using h3
  have h4 : X.s.st = 0 := by simpa using h4
  rw [if_neg (by rw [h3]; decide), if_neg (by omega)]
  obtain ⟨hxo, hxk⟩ := ho.en h3
  rw [hX] at hxo hxk
  refine ⟨X.s.id, X.s.g, X.s.tx, X.s.r, X.s.st, X.s.mo, X.s.de, X.s.rs, X.le, X.ho, X.si, AtL_block b4 rfl, ?_⟩
  refine ⟨(blocked_any X a now hxo ha hn w5).mono fun e w6 ⟨he, k6⟩ => ⟨_, he, .of_k0 k6, bsp_intro (fun h6 => ?_) (fun h6 => ?_)⟩⟩
  · rw [if_pos h6, if_neg (by decide)]
    exact ⟨rfl, h5.k0 k6, (k05.trans k6).q0⟩
  rw [if_neg (by rw [h6]; decide), if_pos rfl]
  have b6 := k6.blk b4 (fun h => h)
  have k06 := k05.trans k6
  have hm : ((idI id, g), X) ∈ q.es := by
    have h7 : aget q.es (idI id, g) = some X := by
      cases hgt : aget q.es (idI id, g) with
      | none => rw [hgt] at h3; cases h3
      | some y =>
        have : q.en (idI id, g) = y := by unfold Qu.en; rw [hgt]; rfl
        rw [← hX, this]
    exact aget_mem h7
  have hpos : 1 ≤ (q.es.filter fun p => p.2.s.st == 0).length := cnt_pos hm (by simp [h4])
  have hle : (q.es.filter fun p => p.2.s.st == 0).length ≤ q.es.length := List.length_filter_le _ _
  have hwt := ho.wt
  refine ⟨X.s.id, X.s.g, X.s.tx, X.s.r, X.s.st, X.s.mo, X.s.de, X.s.rs, AtL_block b6 rfl, ?_⟩
  refine ⟨(finish_any (h.k0 k06) (by omega) X.s hxo.s.id hxo.s.g a now st rs).mono fun e w7 ⟨he, h7, k7⟩ => ?_⟩
  generalize hY : finS39 X.s a now st rs = Y at he h7 ⊢
  refine ⟨Y.id, Y.g, Y.tx, Y.r, Y.st, Y.mo, Y.de, Y.rs, he, (h.k0 k06).kept k7 (fun k e => e) (fun z hz => ?_), rfl, h7, k06.q0.trans k7⟩
  simp only [List.mem_cons, List.not_mem_nil, or_false] at hz
  rcases hz with rfl | rfl
  · exact ⟨_, _, _, k6.blk e0 (fun h => h), rfl⟩
  · exact ⟨_, _, _, k6.blk e1 (fun h => h), rfl⟩

end Go.Proofs.YtfacflbmlfbeeaaGreatDoor

/- Chapter 39: queues stay as they should be; the contract of Approve. The library's variable MaxLen holds a number. -/
namespace Go.Proofs.YtfacflbmlfbeeaaGreatDoor
open Go.RowKit Go.Sort Go.Maps

theorem cnt_set {β : Type} {P : Ky × β → Bool} {k : Ky} {u v : β} : ∀ l : List (Ky × β), aget l k = some u → ((aset l k v).filter P).length + (if P (k, u) = true then 1 else 0) = (l.filter P).length + (if P (k, v) = true then 1 else 0)
  | [], h => by simp [aget] at h
  | (b, w) :: r, h => by
    unfold aget at h
    unfold aset
    by_cases hb : b = k
    · rw [if_pos hb] at h
      cases h
      subst hb
      rw [if_pos rfl]
      simp only [List.filter_cons]
      split <;> split <;> simp <;> omega
    · rw [if_neg hb] at h
      have ih := cnt_set (P := P) (v := v) r h
      rw [if_neg hb]
      cases hP : P (b, w) with
      | true => rw [List.filter_cons_of_pos hP, List.filter_cons_of_pos hP, List.length_cons, List.length_cons]; omega
      | false => rw [List.filter_cons_of_neg (by rw [hP]; decide), List.filter_cons_of_neg (by rw [hP]; decide)]; exact ih
theorem Qu.OK.setR {q q' : Qu} (h : q.OK) {g : ByteArray} {l : List (Nat → Int)} (hl : ∀ m ∈ l, BY m ∧ NZ 16 m) (hR : setR q g l q') : q'.OK := by
  rcases hR with ⟨_, rfl⟩ | ⟨_, _, rfl⟩ | ⟨hE, hne, x, hp, _, hc, rfl⟩
  · exact h
  · refine ⟨h.room, h.days, h.wt, fun g' y hy => ?_, h.es⟩
    have hy : aget (adel q.ms g) g' = some y := hy
    rw [aget_adel] at hy
    split at hy
    · cases hy
    · exact h.ms g' y hy
  · have h0 : gnE g = 0 ∧ ¬ 8 < l.length := by
      unfold setE at hE
      split at hE
      · contradiction
      · rename_i h1
        split at hE
        · cases hE
        · rename_i h2
          exact ⟨by simpa using h1, h2⟩
    refine ⟨h.room, h.days, h.wt, fun g' y hy => ?_, h.es⟩
    have hy : aget (aset q.ms g x) g' = some y := hy
    rw [aget_aset] at hy
    split at hy
    · rename_i e
      cases hy
      subst e
      refine ⟨h0.1, ⟨fun m hm => hl m (hp.subset hm), by rw [hp.length_eq]; omega, hc⟩, fun e => hne ?_⟩
      rw [e] at hp
      exact List.nil_perm.1 hp
    · exact h.ms g' y hy
theorem i64s {x : Int} (h : 0 ≤ x ∧ x ≤ 105190559) : I64 x := ⟨by omega, by omega⟩
theorem by0 : BY fun _ => 0 := fun _ => ⟨Int.le_refl 0, by show (0 : Int) ≤ 255; decide⟩
theorem newE_ok {id : Nat → Int} {g tx : ByteArray} {now : Int} (hid : BY id ∧ NZ 32 id) (hg : g.size ≤ 80) (ht : tx.size ≤ 65536) (hn : 0 ≤ now ∧ now ≤ 105190559) : (newE id g tx now).OK :=
  ⟨⟨hid.1, hid.2, by0, fun _ _ => rfl, by show g.size ≤ _; omega, by show tx.size ≤ _; omega, by show (⟨#[]⟩ : ByteArray).size ≤ _; decide, i64s hn, ⟨by show _ ≤ (0 : Int); decide, by show (0 : Int) ≤ _; decide⟩, ⟨by show _ ≤ (0 : Int); decide, by show (0 : Int) ≤ _; decide⟩⟩, by0, fun _ _ => rfl, ⟨by show (0 : Int) ≤ 0; decide, by show (0 : Int) ≤ _; decide⟩⟩
theorem Qu.OK.sub {q : Qu} (h : q.OK) {id : Nat → Int} {g tx : ByteArray} {now : Int} (hid : BY id ∧ NZ 32 id) : (subQ q id g tx now).OK := by
  unfold subQ
  split
  · rename_i h0
    unfold subE at h0
    split at h0
    · cases h0
    rename_i h1
    split at h0
    · contradiction
    rename_i h2
    split at h0
    · cases h0
    rename_i h3
    split at h0
    · cases h0
    split at h0
    · cases h0
    rename_i h5
    split at h0
    · cases h0
    have hn := minB_iff.1 (show minB now = true by simpa using h1)
    have h2 : gnE g = 0 := by simpa using h2
    have hg := gnE_sz39 h2
    have hnone : aget q.es (idI id, g) = none := by
      cases hgt : aget q.es (idI id, g) with
      | none => rfl
      | some y => rw [hgt] at h5; exact absurd rfl h5
    have hnew : aset q.es (idI id, g) (newE id g tx now) = q.es ++ [((idI id, g), newE id g tx now)] := aset_new (aget_none.1 hnone)
    refine ⟨h.room, h.days, ?_, h.ms, fun k x hx => ?_⟩
    · show q.wt + 1 = (((aset q.es (idI id, g) (newE id g tx now)).filter _).length : Nat)
      rw [hnew, List.filter_append, List.length_append]
      have := h.wt
      have e : ([((idI id, g), newE id g tx now)].filter fun p : Ky × En => p.2.s.st == 0).length = 1 := rfl
      rw [e]
      omega
    · have hx : aget (aset q.es (idI id, g) (newE id g tx now)) k = some x := hx
      rw [aget_aset] at hx
      split at hx
      · rename_i e
        cases hx
        exact ⟨newE_ok hid hg (by omega) hn, e.symm, h2, by show tx.size ≤ _; omega, by show (⟨#[]⟩ : ByteArray).size ≤ _; decide, hn, ⟨by show (0 : Int) ≤ 0; decide, by show (0 : Int) ≤ _; decide⟩, ⟨by show (0 : Int) ≤ 0; decide, by show (0 : Int) ≤ _; decide⟩⟩
      · exact h.es k x hx
  · exact h
theorem Qu.OK.put {q : Qu} (h : q.OK) {k : Ky} {u v : En} (hu : aget q.es k = some u) {wt : Int} (hw : wt + (if u.s.st == 0 then 1 else 0) = q.wt + (if v.s.st == 0 then 1 else 0))
    (hv : v.OK ∧ k = v.s.ky ∧ gnE v.s.g = 0 ∧ v.s.tx.size ≤ 65536 ∧ v.s.rs.size ≤ 200 ∧ (0 ≤ v.s.r ∧ v.s.r ≤ 105190559) ∧ (0 ≤ v.s.de ∧ v.s.de ≤ 105190559) ∧ (0 ≤ v.s.st ∧ v.s.st ≤ 3)) : ({ q with es := aset q.es k v, wt := wt } : Qu).OK := by
  refine ⟨h.room, h.days, ?_, h.ms, fun k' x hx => ?_⟩
  · show wt = (((aset q.es k v).filter _).length : Nat)
    have h1 := cnt_set (P := fun p : Ky × En => p.2.s.st == 0) (v := v) q.es hu
    have h2 := h.wt
    simp only at h1
    split at hw <;> split at hw <;> simp_all <;> omega
  · have hx : aget (aset q.es k v) k' = some x := hx
    rw [aget_aset] at hx
    split at hx
    · rename_i e; cases hx; subst e; exact hv
    · exact h.es k' x hx
theorem Qu.OK.clm {q : Qu} (h : q.OK) (hd : q.es.Pairwise fun p q => p.1 ≠ q.1) {P : En → Bool} {x : Sb} (hx : x ∈ selE P q.es) {a : Nat → Int} (ha : BY a ∧ NZ 16 a) {now : Int} (hn : 0 ≤ now ∧ now ≤ 105190559) : ({ q with es := aset q.es x.ky ⟨x, true, a, now⟩ } : Qu).OK := by
  obtain ⟨k, e, hm, _, rfl⟩ := selE_mem hx
  have hg := aget_at hd hm
  obtain ⟨h1, h2, h3⟩ := h.es k e hg
  subst h2
  exact h.put (v := ⟨e.s, true, a, now⟩) hg rfl ⟨⟨h1.s, ha.1, ha.2, hn⟩, rfl, h3⟩
theorem Qu.OK.fin {q : Qu} (h : q.OK) {k : Ky} {u : En} (hu : aget q.es k = some u) (hs : u.s.st = 0) {a : Nat → Int} (ha : BY a ∧ NZ 16 a) {now : Int} (hn : 0 ≤ now ∧ now ≤ 105190559) {st : Int} (hst : 1 ≤ st ∧ st ≤ 3) {rs : ByteArray} (hr : rs.size ≤ 200) : (finQ q (finS39 u.s a now st rs)).OK := by
  obtain ⟨h1, h2, h3, h4, h5, h6, h7, h8⟩ := h.es k u hu
  subst h2
  refine h.put (v := plainE (finS39 u.s a now st rs)) hu ?_ ⟨⟨⟨h1.s.id, h1.s.idz, ha.1, ha.2, h1.s.g, h1.s.tx, by show rs.size ≤ _; omega, h1.s.r, ⟨by show _ ≤ st; omega, by show st ≤ _; omega⟩, i64s hn⟩, by0, fun _ _ => rfl, ⟨by show (0 : Int) ≤ 0; decide, by show (0 : Int) ≤ _; decide⟩⟩, rfl, h3, h4, hr, h6, hn, ⟨by show 0 ≤ st; omega, hst.2⟩⟩
  have e1 : (u.s.st == 0) = true := by simp [hs]
  have e2 : ((plainE (finS39 u.s a now st rs)).s.st == 0) = false := by show (st == 0) = false; simp; omega
  rw [e1, e2]
  simp
theorem Qu.OK.dec {q : Qu} (h : q.OK) {id : Nat → Int} {g : ByteArray} {a : Nat → Int} (ha : BY a ∧ NZ 16 a) {now : Int} (hn : 0 ≤ now ∧ now ≤ 105190559) {st : Int} (hst : 1 ≤ st ∧ st ≤ 3) {rs : ByteArray} (hr : rs.size ≤ 200) : (decQ q id g a now st rs).OK := by
  unfold decQ
  split
  · rename_i h0
    unfold decE at h0
    split at h0
    · cases h0
    split at h0
    · cases h0
    rename_i h2
    split at h0
    · cases h0
    rename_i h3
    cases hgt : aget q.es (idI id, g) with
    | none => rw [hgt] at h2; exact absurd rfl h2
    | some u =>
      have hen : q.en (idI id, g) = u := by unfold Qu.en; rw [hgt]; rfl
      rw [hen] at h3 ⊢
      exact h.fin hgt (by simpa using h3) ha hn hst hr
  · exact h

/-! ### Approve -/
def apC (k : Int) (f : Nat → Int) (g : ByteArray) : List Value := ([.int .i64 k] : List Value) ++ (arrI .u8 f 32 0 ++ (([.string g, .int .i64 0, .bool false, .slice none 0 0, .string ⟨#[]⟩, .int .i64 0, .int .i64 0] : List Value) ++ arrI .u8 (fun _ => 0) 16 0))
def apE (q : Qu) (id : Nat → Int) (g : ByteArray) (a : Nat → Int) (now : Int) : Int := if minB now = false then 2 else decE q id g a now
def apQ (q : Qu) (id : Nat → Int) (g : ByteArray) (a : Nat → Int) (now st : Int) (rs : ByteArray) : Qu := if minB now = false then q else decQ q id g a now st rs
def cmdL (e : Int) (id : Nat → Int) (g : ByteArray) : List Value := if e = 0 then apC 2 id g else apC 0 (fun _ => 0) ⟨#[]⟩
set_option maxRecDepth 100000 in
theorem approve_any {w : World} {b mb eb : Nat} {q : Qu} (h : Mq w b mb eb q) (ho : q.OK) (hln : q.es.length ≤ 10000) (id : Nat → Int) (hid : BY id) (g : ByteArray) (hg : g.size ≤ 1073741824) (a : Nat → Int) (ha : BY a) (now : Int) :
    Calls Tryz.prog 19 #[.pointer (some ⟨b, 0, none⟩), .agg (arrI .u8 id 32 0).toArray, .string g, .agg (arrI .u8 a 16 0).toArray, .int .i64 now] w fun e w' => e = .returned (.tuple #[.agg (cmdL (apE q id g a now) id g).toArray, .int .i64 (apE q id g a now)]) ∧ Mq w' b mb eb (apQ q id g a now 1 ⟨#[]⟩) ∧ Kp (QB b mb eb) w w' := by
  refine vc_approve b id g a now w _ (fun n n1 n2 W hW => ?_)
  have kW : K0 w W := hW.kk rfl
  have c0 := hW.cells 0 rfl
  have c1 := hW.cells 1 rfl
  have c2 := hW.cells 2 rfl
  refine ⟨(begin_any b now W).mono fun e w1 ⟨he, k1⟩ => ⟨_, he, .of_k0 k1, bsp_intro (fun h1 W2 hW2 => ?_) (fun h1 => ?_)⟩⟩
  · have h1 : minB now = false := by
      cases hm : minB now with
      | false => rfl
      | true => rw [hm] at h1; simp at h1
    have hE : apE q id g a now = 2 := by unfold apE; rw [h1, if_pos rfl]
    have hQ : apQ q id g a now 1 ⟨#[]⟩ = q := by unfold apQ; rw [h1, if_pos rfl]
    have hC : cmdL 2 id g = apC 0 (fun _ => 0) ⟨#[]⟩ := by unfold cmdL; rw [if_neg (by decide)]
    rw [hE, hQ, hC, h1]
    have k2 : K0 w W2 := hW2.k0 (kW.trans k1)
    exact ⟨rfl, h.k0 k2, k2.q0⟩
  have h1 : minB now = true := by
    cases hm : minB now with
    | true => rfl
    | false => rw [hm] at h1; simp at h1
  have hE : apE q id g a now = decE q id g a now := by unfold apE; rw [h1, if_neg (by decide)]
  have hQ : apQ q id g a now 1 ⟨#[]⟩ = decQ q id g a now 1 ⟨#[]⟩ := by unfold apQ; rw [h1, if_neg (by decide)]
  rw [hE, hQ]
  have k01 := kW.trans k1
  refine ⟨(decide_any39 (h.k0 k01) ho hln id hid g hg a ha now (minB_iff.1 h1) 1 ⟨#[]⟩).mono fun e w2 ⟨he, h2, k2⟩ => ⟨_, he, (h.k0 k01).kept k2 (fun k e => e) (fun z hz => ?_), bsp_intro (fun h3 W3 hW3 => ?_) (fun h3 W3 hW3 => ?_)⟩⟩
  · simp only [List.mem_cons, List.not_mem_nil, or_false] at hz
    rcases hz with rfl | rfl | rfl
    · exact ⟨_, _, _, k1.blk c0 (fun h => h), rfl⟩
    · exact ⟨_, _, _, k1.blk c1 (fun h => h), rfl⟩
    · exact ⟨_, _, _, k1.blk c2 (fun h => h), rfl⟩
  · have h3 : decE q id g a now ≠ 0 := by simpa using h3
    have hC : cmdL (decE q id g a now) id g = apC 0 (fun _ => 0) ⟨#[]⟩ := by unfold cmdL; rw [if_neg h3]
    rw [hC]
    have hq : decQ q id g a now 1 ⟨#[]⟩ = q := by unfold decQ; rw [if_neg h3]
    rw [hq] at h2 ⊢
    exact ⟨rfl, h.loc h2 rfl (k01.q0.trans k2) hW3⟩
  · have h3 : decE q id g a now = 0 := by simpa using h3
    rw [h3]
    refine ⟨rfl, h.loc h2 ?_ (k01.q0.trans k2) hW3⟩
    unfold decQ
    split <;> rfl

end Go.Proofs.YtfacflbmlfbeeaaGreatDoor

/- Chapter 39: the example of the chapter, plain. No condition. -/
namespace Go.Proofs.YtfacflbmlfbeeaaGreatDoor
open Go.RowKit Go.Sort Go.Maps

def k39 (v : Int) : Nat → Int
  | 0 => v
  | _ + 1 => 0
theorem k39_BY {v : Int} (h : 0 ≤ v ∧ v ≤ 255) : BY (k39 v) := fun j => by cases j <;> simp [k39] <;> omega
theorem k39_NZ {n : Nat} (h : 0 < n) (v : Int) : NZ n (k39 v) := fun j hj => by
  cases j with
  | zero => omega
  | succ j => rfl
def kG : ByteArray := ⟨#[103]⟩
def kX : ByteArray := ⟨#[116, 101, 120, 116, 32, 111, 102, 32, 120]⟩
def kY : ByteArray := ⟨#[116, 101, 120, 116, 32, 111, 102, 32, 121]⟩
def kex : En := newE (k39 7) kG kX 10
def key_ : En := newE (k39 3) kG kY 5
def kx : Ky := (idI (k39 7), kG)
def ky : Ky := (idI (k39 3), kG)
def key2 : En := ⟨key_.s, true, k39 1, 20⟩
def kex2 : En := ⟨kex.s, true, k39 2, 20⟩
def key3 : En := plainE (finS39 key_.s (k39 2) 80 1 ⟨#[]⟩)
def kq (x : MX) (wt : Int) (es : List (Ky × En)) : Qu := ⟨5, 14, wt, [(kG, x)], es⟩
/-- Two moderators. -/
def kM (x : MX) : Prop := x.l.Perm [k39 2, k39 1]
theorem kq_md {x : MX} {wt : Int} {es : List (Ky × En)} : (kq x wt es).md kG = x := by unfold Qu.md kq; simp [aget]
theorem kM_is {x : MX} (h : kM x) (i : Int) (hi : i = 1 ∨ i = 2) : isMB x (k39 i) = true := by
  unfold isMB
  rw [decide_eq_true_eq]
  refine List.mem_map.2 ⟨k39 i, h.symm.subset ?_, rfl⟩
  rcases hi with rfl | rfl <;> simp
theorem kxy : ¬ kx = ky := by decide +kernel
theorem k_set : setE kG [k39 2, k39 1] = 0 := by
  unfold setE
  rw [if_neg (by decide +kernel), if_neg (by decide), if_pos]
  have h : auI (k39 2) ≠ auI (k39 1) := by decide +kernel
  simp [h]
theorem kset_iff {q' : Qu} (h : setR ⟨5, 14, 0, [], []⟩ kG [k39 2, k39 1] q') : ∃ x, kM x ∧ q' = kq x 0 [] := by
  rcases h with ⟨h, _⟩ | ⟨_, h, _⟩ | ⟨_, _, x, hp, _, _, rfl⟩
  · exact absurd k_set h
  · cases h
  · exact ⟨x, hp, rfl⟩
theorem k_gn : gnE kG = 0 := by decide +kernel
theorem k_sub1 {x : MX} (h : kM x) : subE (kq x 0 []) (k39 7) kG kX 10 = 0 := by
  unfold subE
  rw [if_neg (by decide), if_neg (by rw [k_gn]; decide), if_neg (by decide), kq_md, if_neg (by rw [h.length_eq]; decide), if_neg (by show ¬ (aget [] _).isSome = true; decide), if_neg (by show ¬ (5 : Int) ≤ 0; decide)]
theorem k_subQ1 {x : MX} (h : kM x) : subQ (kq x 0 []) (k39 7) kG kX 10 = kq x 1 [(kx, kex)] := by
  unfold subQ
  rw [if_pos (k_sub1 h)]
  rfl
theorem k_a1 : aget [(kx, kex)] ky = none := by unfold aget; rw [if_neg kxy]; rfl
theorem k_sub2 {x : MX} (h : kM x) : subE (kq x 1 [(kx, kex)]) (k39 3) kG kY 5 = 0 := by
  unfold subE
  rw [if_neg (by decide), if_neg (by rw [k_gn]; decide), if_neg (by decide), kq_md, if_neg (by rw [h.length_eq]; decide), if_neg (by show ¬ (aget [(kx, kex)] ky).isSome = true; rw [k_a1]; decide), if_neg (by show ¬ (5 : Int) ≤ 1; decide)]
theorem k_subQ2 {x : MX} (h : kM x) : subQ (kq x 1 [(kx, kex)]) (k39 3) kG kY 5 = kq x 2 [(kx, kex), (ky, key_)] := by
  unfold subQ
  rw [if_pos (k_sub2 h)]
  show kq x 2 (aset [(kx, kex)] ky key_) = _
  unfold aset
  rw [if_neg kxy]
  rfl
theorem k_s1 : ∀ e1 e2 : En, selE (clP kG (auI (k39 1)) 20) [(kx, e1), (ky, e2)] = (if clP kG (auI (k39 1)) 20 e1 = true then [e1.s] else []) ++ (if clP kG (auI (k39 1)) 20 e2 = true then [e2.s] else []) := fun e1 e2 => by
  unfold selE
  rw [List.filter_cons, List.filter_cons, List.filter_nil]
  split <;> split <;> rfl
theorem k_s2 : ∀ e1 e2 : En, selE (clP kG (auI (k39 2)) 20) [(kx, e1), (ky, e2)] = (if clP kG (auI (k39 2)) 20 e1 = true then [e1.s] else []) ++ (if clP kG (auI (k39 2)) 20 e2 = true then [e2.s] else []) := fun e1 e2 => by
  unfold selE
  rw [List.filter_cons, List.filter_cons, List.filter_nil]
  split <;> split <;> rfl
theorem k_c1 : clP kG (auI (k39 1)) 20 kex = true := by decide +kernel
theorem k_c2 : clP kG (auI (k39 1)) 20 key_ = true := by decide +kernel
theorem k_c3 : clP kG (auI (k39 1)) 20 key2 = true := by decide +kernel
theorem k_c4 : clP kG (auI (k39 2)) 20 kex = true := by decide +kernel
theorem k_c5 : clP kG (auI (k39 2)) 20 key2 = false := by decide +kernel
theorem k_lt : cfM key_.s kex.s < 0 := by decide +kernel
theorem k_sel1 {x : MX} : isSel (kq x 2 [(kx, kex), (ky, key_)]) kG (auI (k39 1)) 20 = [kex.s, key_.s] := by
  show selE _ [(kx, kex), (ky, key_)] = _
  rw [k_s1, if_pos k_c1, if_pos k_c2]; rfl
theorem k_sel2 {x : MX} : isSel (kq x 2 [(kx, kex), (ky, key2)]) kG (auI (k39 1)) 20 = [kex.s, key_.s] := by
  show selE _ [(kx, kex), (ky, key2)] = _
  rw [k_s1, if_pos k_c1, if_pos k_c3]; rfl
theorem k_sel3 {x : MX} : isSel (kq x 2 [(kx, kex), (ky, key2)]) kG (auI (k39 2)) 20 = [kex.s] := by
  show selE _ [(kx, kex), (ky, key2)] = _
  rw [k_s2, if_pos k_c4, if_neg (by rw [k_c5]; decide)]; rfl
theorem k_min {s : Sb} (h : s ∈ [kex.s, key_.s]) (hm : ∀ y ∈ [kex.s, key_.s], ¬ cfM y s < 0) : s = key_.s := by
  rcases List.mem_cons.1 h with rfl | h
  · exact absurd k_lt (hm key_.s (by simp))
  · simpa using h
theorem k_clm {x : MX} (h : kM x) (i : Int) (hi : i = 1 ∨ i = 2) {es : List (Ky × En)} (hs : (isSel (kq x 2 es) kG (auI (k39 i)) 20).length ≠ 0) : clmE (kq x 2 es) kG (k39 i) 20 = 0 := by
  unfold clmE
  rw [if_neg (by decide), kq_md, if_neg (by rw [kM_is h i hi]; decide), if_neg hs]
theorem k_set1 {e1 e2 v : En} : aset [(kx, e1), (ky, e2)] ky v = [(kx, e1), (ky, v)] := by
  unfold aset
  rw [if_neg kxy]
  unfold aset
  rw [if_pos rfl]
theorem k_set2 {e1 e2 v : En} : aset [(kx, e1), (ky, e2)] kx v = [(kx, v), (ky, e2)] := by
  unfold aset
  rw [if_pos rfl]
theorem k_gety {e1 e2 : En} : aget [(kx, e1), (ky, e2)] ky = some e2 := by
  unfold aget
  rw [if_neg kxy]
  unfold aget
  rw [if_pos rfl]
theorem k_en {x : MX} {e1 e2 : En} : (kq x 2 [(kx, e1), (ky, e2)]).en ky = e2 := by
  unfold Qu.en
  show (aget [(kx, e1), (ky, e2)] ky).getD enz = e2
  rw [k_gety]; rfl
theorem k_dec {x : MX} (h : kM x) {e1 : En} (now : Int) : decE (kq x 2 [(kx, e1), (ky, key2)]) (k39 3) kG (k39 2) now = if blk key2 (auI (k39 2)) now = true then 25 else 0 := by
  unfold decE
  rw [kq_md, if_neg (by rw [kM_is h 2 (.inr rfl)]; decide), if_neg (by show ¬ (aget [(kx, e1), (ky, key2)] ky).isSome = false; rw [k_gety]; decide)]
  have e : (kq x 2 [(kx, e1), (ky, key2)]).en (idI (k39 3), kG) = key2 := k_en
  rw [e, if_neg (by show ¬ (0 : Int) ≠ 0; decide)]
theorem k_b79 : blk key2 (auI (k39 2)) 79 = true := by decide +kernel
theorem k_b80 : blk key2 (auI (k39 2)) 80 = false := by decide +kernel
theorem k_ap79 {x : MX} (h : kM x) {e1 : En} : apE (kq x 2 [(kx, e1), (ky, key2)]) (k39 3) kG (k39 2) 79 = 25 := by
  unfold apE
  rw [if_neg (by decide), k_dec h, if_pos k_b79]
theorem k_ap80 {x : MX} (h : kM x) {e1 : En} : apE (kq x 2 [(kx, e1), (ky, key2)]) (k39 3) kG (k39 2) 80 = 0 := by
  unfold apE
  rw [if_neg (by decide), k_dec h, if_neg (by rw [k_b80]; decide)]
theorem k_apQ79 {x : MX} (h : kM x) {e1 : En} : apQ (kq x 2 [(kx, e1), (ky, key2)]) (k39 3) kG (k39 2) 79 1 ⟨#[]⟩ = kq x 2 [(kx, e1), (ky, key2)] := by
  unfold apQ decQ
  rw [if_neg (by decide), k_dec h, if_pos k_b79, if_neg (by decide)]
theorem k_apQ80 {x : MX} (h : kM x) {e1 : En} : apQ (kq x 2 [(kx, e1), (ky, key2)]) (k39 3) kG (k39 2) 80 1 ⟨#[]⟩ = kq x 1 [(kx, e1), (ky, key3)] := by
  unfold apQ decQ
  have e : (kq x 2 [(kx, e1), (ky, key2)]).en (idI (k39 3), kG) = key2 := k_en
  rw [if_neg (by decide), k_dec h, k_b80, if_pos (by decide), e]
  show kq x 1 (aset [(kx, e1), (ky, key2)] ky key3) = _
  rw [k_set1]
theorem k_l1 : lsP kG 1 kex2 = false := by decide +kernel
theorem k_l2 : lsP kG 1 key3 = true := by decide +kernel
theorem k_cnt : (selE (lsP kG 1) [(kx, kex2), (ky, key3)]).length = 1 := by
  unfold selE
  rw [List.filter_cons, if_neg (by rw [k_l1]; decide), List.filter_cons, if_pos k_l2]
  rfl
theorem kq0_ok : (⟨5, 14, 0, [], []⟩ : Qu).OK := ⟨⟨by decide, by decide⟩, ⟨by decide, by decide⟩, rfl, fun g x h => (by cases h), fun k x h => (by cases h)⟩
theorem kml : ∀ m ∈ [k39 2, k39 1], BY m ∧ NZ 16 m := fun m hm => by
  simp only [List.mem_cons, List.not_mem_nil, or_false] at hm
  rcases hm with rfl | rfl
  · exact ⟨k39_BY (by decide), k39_NZ (by decide) 2⟩
  · exact ⟨k39_BY (by decide), k39_NZ (by decide) 1⟩

end Go.Proofs.YtfacflbmlfbeeaaGreatDoor
