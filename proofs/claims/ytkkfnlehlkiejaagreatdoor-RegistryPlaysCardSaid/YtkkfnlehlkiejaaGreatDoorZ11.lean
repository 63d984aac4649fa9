/- The formulas of functions by the symbolic evaluator, and that each gives the call's contract. Written by a program (gen.py). No condition. -/
import Derived.Test.YtkkfnlehlkiejaaGreatDoorProg
import Derived.Test.YtkkfnlehlkiejaaGreatDoorZ02
import Derived.Test.YtkkfnlehlkiejaaGreatDoorZ03
import Derived.Test.YtkkfnlehlkiejaaGreatDoorZ05
import Derived.KernelRfl
namespace Go.Proofs.YtkkfnlehlkiejaaGreatDoor
set_option maxRecDepth 100000
set_option linter.unusedVariables false

def VC_lrauth (p : Option Addr) (n : Nat) (c : Nat) (s : ByteArray) (a : Nat → Int) (w : World) (R : Ending → World → Prop) : Prop :=
 ∀ (n_1 : Nat) (W : World),
 Loc w.heap.size
 [Blk.mk n_1 23
 (arrI IntKind.u8 a 16 0)
 2]
 w W →
 CallsS Tryz.prog 12 #[Value.slice p n c] W fun (e : Ending) (w' : World) =>
 ∃ (p : Option Addr),
 ∃ (n : Nat),
 ∃ (c : Nat),
 ∃ (p_1 : Option Addr),
 ∃ (n_2 : Nat),
 ∃ (c_1 : Nat),
 e = Ending.returned (Value.tuple #[Value.slice p n c, Value.slice p_1 n_2 c_1]) ∧
 KeptL [n_1] W w' ∧
 ((0 ≤ if 100 < (↑s.size : Int) then 100 else (↑s.size : Int)) ∧
 (if 100 < (↑s.size : Int) then 100 else (↑s.size : Int)) ≤ (↑s.size : Int)) ∧
 CallsS Tryz.prog 13 #[Value.slice p n c] w' fun (e : Ending) (w'_1 : World) =>
 ∃ (x : Option Addr),
 ∃ (x_1 : Int),
 ∃ (x_2 : Int),
 e =
 Ending.returned
 (Value.tuple #[Value.pointer x, Value.int IntKind.i64 x_1, Value.int IntKind.i64 x_2]) ∧
 KeptL [n_1] w' w'_1 ∧
 CallsS Tryz.prog 14 #[Value.slice p_1 n_2 c_1] w'_1 fun (e : Ending) (w' : World) =>
 ∃ (p : Option Addr),
 ∃ (n : Nat),
 ∃ (c : Nat),
 ∃ (p_2 : Option Addr),
 ∃ (n_3 : Nat),
 ∃ (c_2 : Nat),
 ∃ (x_3 : Int),
 ∃ (x_4 : Int),
 e =
 Ending.returned
 (Value.tuple
 #[Value.agg #[Value.slice p n c, Value.slice p_2 n_3 c_2], Value.int IntKind.i64 x_3,
 Value.int IntKind.i64 x_4]) ∧
 KeptL [n_1] w'_1 w' ∧
 ∀ (n_4 : Nat),
 bsp (x_2 != 0 || x_4 != 0)
 (∀ (W : World),
 Loc w.heap.size
 [Blk.mk n_4 33 [Value.slice p n c, Value.slice p_2 n_3 c_2] (wrM 2),
 Blk.mk n_1 23
 (arrI IntKind.u8 a 16 0)
 0]
 w' W →
 CallsS Tryz.prog 15 #[] W fun (e : Ending) (w' : World) =>
 ∃ (x : Bool),
 e = Ending.returned (Value.bool x) ∧
 KeptL [n_4, n_1] W w' ∧ R (Ending.returned (Value.bool (x && x_2 == x_4))) w')
 (∀ (W : World),
 Loc w.heap.size
 [Blk.mk n_4 33 [Value.slice p n c, Value.slice p_2 n_3 c_2] (wrM 2),
 Blk.mk n_1 23
 (arrI IntKind.u8 a 16 0)
 0]
 w' W →
 ∃ (S : World → Prop),
 S W ∧
 CallsS Tryz.prog 15 #[] W fun (e : Ending) (w' : World) =>
 ∃ (x_5 : Bool),
 e = Ending.returned (Value.bool x_5) ∧
 S w' ∧
 ∃ (f : Nat → Int),
 gimp x_5
 (∀ (w' : World),
 S w' →
 AtL w' n_1 0
 (arrI IntKind.u8 f 16 0)) ∧
 ∃ (p : Option Addr),
 ∃ (n : Nat),
 ∃ (c : Nat),
 ∃ (p_3 : Option Addr),
 ∃ (n_5 : Nat),
 ∃ (c_3 : Nat),
 gimp x_5
 (∀ (w' : World),
 S w' → AtL w' n_4 0 [Value.slice p n c, Value.slice p_3 n_5 c_3]) ∧
 ∃ (f_1 : Nat → Int),
 gimp x_5
 (∀ (w' : World),
 S w' →
 AtL w' n_1 0
 (arrI IntKind.u8 f_1 16 0)) ∧
 bsp x_5
 (CallsS Tryz.prog 16
 #[Value.pointer x,
 Value.string
 (s.extract 0
 (if 100 < (↑s.size : Int) then 100 else (↑s.size : Int)).toNat),
 Value.agg
 (arrI IntKind.u8 f 16 0).toArray]
 w' fun (e : Ending) (w' : World) =>
 ∃ (x : Bool),
 e = Ending.returned (Value.bool x) ∧
 S w' ∧
 CallsS Tryz.prog 17
 #[Value.agg #[Value.slice p n c, Value.slice p_3 n_5 c_3],
 Value.string
 (s.extract 0
 (if 100 < (↑s.size : Int) then 100
 else (↑s.size : Int)).toNat),
 Value.agg
 (arrI IntKind.u8 f_1 16 0).toArray]
 w' fun (e : Ending) (w' : World) =>
 ∃ (x_6 : Bool),
 e = Ending.returned (Value.bool x_6) ∧
 KeptL [n_4, n_1] W w' ∧
 R (Ending.returned (Value.bool (true && x == x_6))) w')
 (S w' ∧
 KeptL [n_4, n_1] W w' ∧ R (Ending.returned (Value.bool false)) w'))
theorem vc_lrauth (p : Option Addr) (n : Nat) (c : Nat) (s : ByteArray) (a : Nat → Int) (w : World) (R : Ending → World → Prop) (h : VC_lrauth p n c s a w R) : Calls Tryz.prog 3 ([Value.slice
    p n c,
  Value.string s, Value.agg (arrI IntKind.u8 a 16 0).toArray] : List Value).toArray w R := by
  have e : execR2 { P := Tryz.prog, loops := [], pur := pur1, tails := [(7, 0)], joins := [], boxes := [] } Tryz.f3.results.toList R (Tryz.f3.body.getD .skip) (initF [Value.slice
    p n c,
  Value.string s,
  Value.agg
    (arrI IntKind.u8 a 16
        0).toArray] (Tryz.f3.ntmps - ([Value.slice p n c, Value.string s,
  Value.agg (arrI IntKind.u8 a 16 0).toArray] : List Value).length)) w = VC_lrauth p n c s a w R := by kernel_rfl
  have hb : Tryz.f3.body = some (Tryz.f3.body.getD .skip) := by kernel_rfl
  exact calls_of_exec2' (P := Tryz.prog) (fn := Tryz.f3) (c := Tryz.f3.body.getD .skip) (args := [Value.slice p n c,
  Value.string s, Value.agg (arrI IntKind.u8 a 16 0).toArray]) (w := w) (R := R) pur1_ok Tryz.func3 hb e h

def VC_lrchecks (id : Nat → Int) (au : Nat → Int) (g : ByteArray) (v : Int) (rm : Bool) (md : Bool) (p : Option Addr) (n : Nat) (c : Nat) (t : ByteArray) (id2 : Nat → Int) (au2 : Nat → Int) (g2 : ByteArray) (v2 : Int) (rm2 : Bool) (md2 : Bool) (p2 : Option Addr) (n2 : Nat) (c2 : Nat) (t2 : ByteArray) (w : World) (R : Ending → World → Prop) : Prop :=
 ∀ (n_1 n_2 : Nat) (W : World),
 Loc w.heap.size
 [Blk.mk n_2 50
 (arrI IntKind.u8 id2 32 0 ++ (arrI IntKind.u8 au2 16 0 ++ [Value.string g2,
 Value.int IntKind.i64 v2, Value.bool rm2, Value.bool md2, Value.slice p2 n2 c2, Value.string t2]))
 2,
 Blk.mk n_1 50
 (arrI IntKind.u8 id 32 0 ++ (arrI IntKind.u8 au 16 0 ++ [Value.string g,
 Value.int IntKind.i64 v, Value.bool rm, Value.bool md, Value.slice p n c, Value.string t]))
 2]
 w W →
 ∃ (S : World → Prop),
 S W ∧
 ∃ (f : Nat → Int),
 ∃ (f_1 : Nat → Int),
 ∃ (x : ByteArray),
 ∃ (x_1 : Int),
 ∃ (x_2 : Bool),
 ∃ (x_3 : Bool),
 ∃ (p_1 : Option Addr),
 ∃ (n_3 : Nat),
 ∃ (c_1 : Nat),
 ∃ (x_4 : ByteArray),
 (∀ (w' : World),
 S w' →
 AtL w' n_1 0
 (arrI IntKind.u8 f 32 0 ++ (arrI IntKind.u8 f_1 16 0 ++ [Value.string x, Value.int IntKind.i64 x_1, Value.bool x_2, Value.bool x_3, Value.slice p_1 n_3 c_1,
 Value.string x_4]))) ∧
 ∃ (f_2 : Nat → Int),
 ∃ (f_3 : Nat → Int),
 ∃ (x_5 : ByteArray),
 ∃ (x_6 : Int),
 ∃ (x_7 : Bool),
 ∃ (x_8 : Bool),
 ∃ (p_2 : Option Addr),
 ∃ (n_4 : Nat),
 ∃ (c_2 : Nat),
 ∃ (x_9 : ByteArray),
 (∀ (w' : World),
 S w' →
 AtL w' n_2 0
 (arrI IntKind.u8 f_2 32 0 ++ (arrI IntKind.u8 f_3 16 0 ++ [Value.string x_5, Value.int IntKind.i64 x_6,
 Value.bool x_7, Value.bool x_8, Value.slice p_2 n_4 c_2, Value.string x_9]))) ∧
 (CallsS Tryz.prog 23
 #[Value.agg
 (arrI IntKind.u8 f 32 0 ++ (arrI IntKind.u8 f_1 16 0 ++ [Value.string x,
 Value.int IntKind.i64 x_1, Value.bool x_2, Value.bool x_3, Value.slice p_1 n_3 c_1,
 Value.string x_4])).toArray]
 W fun (e : Ending) (w' : World) =>
 ∃ (f : Nat → Int),
 ∃ (f_4 : Nat → Int),
 ∃ (x : ByteArray),
 ∃ (x_10 : Int),
 ∃ (x_11 : Bool),
 ∃ (x_12 : Bool),
 ∃ (p_3 : Option Addr),
 ∃ (n_5 : Nat),
 ∃ (c_3 : Nat),
 ∃ (x_13 : ByteArray),
 e =
 Ending.returned
 (Value.agg
 (arrI IntKind.u8 f 32 0 ++ (arrI IntKind.u8 f_4 16 0 ++ [Value.string x,
 Value.int IntKind.i64 x_10, Value.bool x_11, Value.bool x_12,
 Value.slice p_3 n_5 c_3, Value.string x_13])).toArray) ∧
 S w' ∧
 (CallsS Tryz.prog 23
 #[Value.agg
 (arrI IntKind.u8 f_2 32 0 ++ (arrI IntKind.u8 f_3 16 0 ++ [Value.string x_5, Value.int IntKind.i64 x_6, Value.bool x_7,
 Value.bool x_8, Value.slice p_2 n_4 c_2, Value.string x_9])).toArray]
 w' fun (e : Ending) (w' : World) =>
 ∃ (f_5 : Nat → Int),
 ∃ (f_6 : Nat → Int),
 ∃ (x_14 : ByteArray),
 ∃ (x_15 : Int),
 ∃ (x_16 : Bool),
 ∃ (x_17 : Bool),
 ∃ (p_4 : Option Addr),
 ∃ (n_6 : Nat),
 ∃ (c_4 : Nat),
 ∃ (x_18 : ByteArray),
 e =
 Ending.returned
 (Value.agg
 (arrI IntKind.u8 f_5 32 0 ++ (arrI IntKind.u8 f_6 16 0 ++ [Value.string x_14, Value.int IntKind.i64 x_15, Value.bool x_16,
 Value.bool x_17, Value.slice p_4 n_6 c_4, Value.string x_18])).toArray) ∧
 (∀ (n_7 : Nat) (w1 : World),
 NewB w'
 (Obj.cells
 #[Value.int IntKind.u8 0, Value.int IntKind.u8 0,
 Value.int IntKind.u8 0, Value.int IntKind.u8 0,
 Value.int IntKind.u8 0, Value.int IntKind.u8 0,
 Value.int IntKind.u8 0, Value.int IntKind.u8 0,
 Value.int IntKind.u8 0, Value.int IntKind.u8 0,
 Value.int IntKind.u8 0, Value.int IntKind.u8 0,
 Value.int IntKind.u8 0, Value.int IntKind.u8 0,
 Value.int IntKind.u8 0, Value.int IntKind.u8 0,
 Value.int IntKind.u8 0, Value.int IntKind.u8 0,
 Value.int IntKind.u8 0, Value.int IntKind.u8 0,
 Value.int IntKind.u8 0, Value.int IntKind.u8 0,
 Value.int IntKind.u8 0, Value.int IntKind.u8 0,
 Value.int IntKind.u8 0, Value.int IntKind.u8 0,
 Value.int IntKind.u8 0, Value.int IntKind.u8 0,
 Value.int IntKind.u8 0, Value.int IntKind.u8 0,
 Value.int IntKind.u8 0, Value.int IntKind.u8 0,
 Value.int IntKind.u8 0, Value.int IntKind.u8 0,
 Value.int IntKind.u8 0, Value.int IntKind.u8 0,
 Value.int IntKind.u8 0, Value.int IntKind.u8 0,
 Value.int IntKind.u8 0, Value.int IntKind.u8 0,
 Value.int IntKind.u8 0, Value.int IntKind.u8 0,
 Value.int IntKind.u8 0, Value.int IntKind.u8 0,
 Value.int IntKind.u8 0, Value.int IntKind.u8 0,
 Value.int IntKind.u8 0, Value.int IntKind.u8 0,
 Value.string (ByteArray.mk #[]), Value.int IntKind.i64 0,
 Value.bool false, Value.bool false, Value.slice none 0 0,
 Value.string (ByteArray.mk #[])]
 56)
 n_7 w1 →
 S w1 ∧
 ∀ (n_8 : Nat) (w1_1 : World),
 NewB w1
 (Obj.cells
 #[Value.int IntKind.u8 0, Value.int IntKind.u8 0,
 Value.int IntKind.u8 0, Value.int IntKind.u8 0,
 Value.int IntKind.u8 0, Value.int IntKind.u8 0,
 Value.int IntKind.u8 0, Value.int IntKind.u8 0,
 Value.int IntKind.u8 0, Value.int IntKind.u8 0,
 Value.int IntKind.u8 0, Value.int IntKind.u8 0,
 Value.int IntKind.u8 0, Value.int IntKind.u8 0,
 Value.int IntKind.u8 0, Value.int IntKind.u8 0,
 Value.int IntKind.u8 0, Value.int IntKind.u8 0,
 Value.int IntKind.u8 0, Value.int IntKind.u8 0,
 Value.int IntKind.u8 0, Value.int IntKind.u8 0,
 Value.int IntKind.u8 0, Value.int IntKind.u8 0,
 Value.int IntKind.u8 0, Value.int IntKind.u8 0,
 Value.int IntKind.u8 0, Value.int IntKind.u8 0,
 Value.int IntKind.u8 0, Value.int IntKind.u8 0,
 Value.int IntKind.u8 0, Value.int IntKind.u8 0,
 Value.int IntKind.u8 0, Value.int IntKind.u8 0,
 Value.int IntKind.u8 0, Value.int IntKind.u8 0,
 Value.int IntKind.u8 0, Value.int IntKind.u8 0,
 Value.int IntKind.u8 0, Value.int IntKind.u8 0,
 Value.int IntKind.u8 0, Value.int IntKind.u8 0,
 Value.int IntKind.u8 0, Value.int IntKind.u8 0,
 Value.int IntKind.u8 0, Value.int IntKind.u8 0,
 Value.int IntKind.u8 0, Value.int IntKind.u8 0,
 Value.string (ByteArray.mk #[]), Value.int IntKind.i64 0,
 Value.bool false, Value.bool false, Value.slice none 0 0,
 Value.string (ByteArray.mk #[])]
 56)
 n_8 w1_1 →
 S w1_1 ∧
 WrL w1_1 n_7 0 54 ∧
 ∀ (w1 : World),
 PutB w1_1 n_7 0
 (arrI IntKind.u8 f 32 0 ++ (arrI IntKind.u8 f_4 16 0 ++ [Value.string x,
 Value.int IntKind.i64 x_10, Value.bool x_11,
 Value.bool x_12, Value.slice p_3 n_5 c_3,
 Value.string x_13]))
 w1 →
 WrL w1 n_8 0 54 ∧
 ∀ (w1_2 : World),
 PutB w1 n_8 0
 (arrI IntKind.u8 f_5 32 0 ++ (arrI IntKind.u8 f_6 16 0 ++ [Value.string x_14,
 Value.int IntKind.i64 x_15, Value.bool x_16,
 Value.bool x_17, Value.slice p_4 n_6 c_4,
 Value.string x_18]))
 w1_2 →
 KeptL [n_2, n_1] W w1_2 ∧
 ∀ (W : World),
 Loc w.heap.size
 [Blk.mk n_2 50
 (arrI IntKind.u8 id2 32 0 ++ (arrI IntKind.u8 au2 16 0 ++ [Value.string g2,
 Value.int IntKind.i64 v2, Value.bool rm2,
 Value.bool md2, Value.slice p2 n2 c2,
 Value.string t2]))
 0,
 Blk.mk n_1 50
 (arrI IntKind.u8 id 32 0 ++ (arrI IntKind.u8 au 16 0 ++ [Value.string g,
 Value.int IntKind.i64 v, Value.bool rm,
 Value.bool md, Value.slice p n c,
 Value.string t]))
 0]
 w1_2 W →
 ∃ (S : World → Prop),
 S W ∧
 CallsS Tryz.prog 15 #[] W
 fun (e : Ending) (w' : World) =>
 ∃ (x : Bool),
 e = Ending.returned (Value.bool x) ∧
 S w' ∧
 ∃ (f : Nat → Int),
 ∃ (f_7 : Nat → Int),
 ∃ (x_19 : ByteArray),
 ∃ (x_20 : Int),
 ∃ (x_21 : Bool),
 ∃ (x_22 : Bool),
 ∃ (p : Option Addr),
 ∃ (n : Nat),
 ∃ (c : Nat),
 ∃ (x_23 : ByteArray),
 gimp x
 (∀ (w' : World),
 S w' →
 AtL w' n_7 0
 (arrI IntKind.u8 f 32 0 ++ (arrI IntKind.u8 f_7 16 0 ++ [Value.string x_19,
 Value.int IntKind.i64 x_20,
 Value.bool x_21,
 Value.bool x_22,
 Value.slice p n c,
 Value.string x_23]))) ∧
 ∃ (f_8 : Nat → Int),
 ∃ (f_9 : Nat → Int),
 ∃ (x_24 : ByteArray),
 ∃ (x_25 : Int),
 ∃ (x_26 : Bool),
 ∃ (x_27 : Bool),
 ∃ (p_5 : Option Addr),
 ∃ (n_9 : Nat),
 ∃ (c_5 : Nat),
 ∃ (x_28 : ByteArray),
 gimp x
 (∀ (w' : World),
 S w' →
 AtL w' n_7 0
 (arrI IntKind.u8 f_8 32 0 ++ (arrI IntKind.u8 f_9 16 0 ++ [Value.string x_24,
 Value.int
 IntKind.i64 x_25,
 Value.bool x_26,
 Value.bool x_27,
 Value.slice p_5
 n_9 c_5,
 Value.string
 x_28]))) ∧
 bsp x
 (CallsS Tryz.prog 24
 #[Value.agg
 (arrI IntKind.u8 f 32 0 ++ (arrI IntKind.u8 f_7 16 0 ++ [Value.string x_19,
 Value.int
 IntKind.i64 x_20,
 Value.bool x_21,
 Value.bool x_22,
 Value.slice p n c,
 Value.string
 x_23])).toArray]
 w'
 fun (e : Ending)
 (w' : World) =>
 ∃ (x : Int),
 e =
 Ending.returned
 (Value.int
 IntKind.i64 x) ∧
 S w' ∧
 CallsS Tryz.prog
 26
 #[Value.agg
 (arrI IntKind.u8 f_8 32 0 ++ (arrI IntKind.u8 f_9 16 0 ++ [Value.string
 x_24,
 Value.int
 IntKind.i64
 x_25,
 Value.bool
 x_26,
 Value.bool
 x_27,
 Value.slice
 p_5 n_9 c_5,
 Value.string
 x_28])).toArray]
 w'
 fun (e : Ending)
 (w' : World) =>
 ∃ (f :
 Nat → Int),
 ∃ (f_10 :
 Nat → Int),
 ∃ (x_29 :
 ByteArray),
 ∃ (x_30 :
 Int),
 ∃ (x_31 :
 Bool),
 ∃ (x_32 :
 Bool),
 ∃ (p :
 Option
 Addr),
 ∃ (n :
 Nat),
 ∃ (c :
 Nat),
 ∃ (x_33
 :
 ByteArray),
 e =
 Ending.returned
 (Value.agg
 (arrI IntKind.u8 f 32 0 ++ (arrI IntKind.u8 f_10 16 0 ++ [Value.string
 x_29,
 Value.int
 IntKind.i64
 x_30,
 Value.bool
 x_31,
 Value.bool
 x_32,
 Value.slice
 p
 n
 c,
 Value.string
 x_33])).toArray) ∧
 S w' ∧
 CallsS
 Tryz.prog
 25
 #[Value.agg
 (arrI IntKind.u8 f 32 0 ++ (arrI IntKind.u8 f_10 16 0 ++ [Value.string
 x_29,
 Value.int
 IntKind.i64
 x_30,
 Value.bool
 x_31,
 Value.bool
 x_32,
 Value.slice
 p
 n
 c,
 Value.string
 x_33])).toArray]
 w'
 fun
 (e :
 Ending)
 (w' :
 World) =>
 ∃
 (x_34
 :
 Int),
 e =
 Ending.returned
 (Value.int
 IntKind.i64
 x_34) ∧
 S
 w' ∧
 ∃
 (f
 :
 Nat →
 Int),
 ∃
 (f_11
 :
 Nat →
 Int),
 ∃
 (x_35
 :
 ByteArray),
 ∃
 (x_36
 :
 Int),
 ∃
 (x_37
 :
 Bool),
 ∃
 (x_38
 :
 Bool),
 ∃
 (p
 :
 Option
 Addr),
 ∃
 (n
 :
 Nat),
 ∃
 (c
 :
 Nat),
 ∃
 (x_39
 :
 ByteArray),
 gimp
 (true &&
 x ==
 x_34)
 (∀
 (w' :
 World),
 S
 w' →
 AtL
 w'
 n_7
 0
 (arrI IntKind.u8 f 32 0 ++ (arrI IntKind.u8 f_11 16 0 ++ [Value.string
 x_35,
 Value.int
 IntKind.i64
 x_36,
 Value.bool
 x_37,
 Value.bool
 x_38,
 Value.slice
 p
 n
 c,
 Value.string
 x_39]))) ∧
 ∃
 (f_12
 :
 Nat →
 Int),
 ∃
 (f_13
 :
 Nat →
 Int),
 ∃
 (x_40
 :
 ByteArray),
 ∃
 (x_41
 :
 Int),
 ∃
 (x_42
 :
 Bool),
 ∃
 (x_43
 :
 Bool),
 ∃
 (p_6
 :
 Option
 Addr),
 ∃
 (n_10
 :
 Nat),
 ∃
 (c_6
 :
 Nat),
 ∃
 (x_44
 :
 ByteArray),
 gimp
 (true &&
 x ==
 x_34)
 (∀
 (w' :
 World),
 S
 w' →
 AtL
 w'
 n_1
 0
 (arrI IntKind.u8 f_12 32 0 ++ (arrI IntKind.u8 f_13 16 0 ++ [Value.string
 x_40,
 Value.int
 IntKind.i64
 x_41,
 Value.bool
 x_42,
 Value.bool
 x_43,
 Value.slice
 p_6
 n_10
 c_6,
 Value.string
 x_44]))) ∧
 bsp
 (true &&
 x ==
 x_34)
 (CallsS
 Tryz.prog
 23
 #[Value.agg
 (arrI IntKind.u8 f_12 32 0 ++ (arrI IntKind.u8 f_13 16 0 ++ [Value.string
 x_40,
 Value.int
 IntKind.i64
 x_41,
 Value.bool
 x_42,
 Value.bool
 x_43,
 Value.slice
 p_6
 n_10
 c_6,
 Value.string
 x_44])).toArray]
 w'
 fun
 (e :
 Ending)
 (w' :
 World) =>
 ∃
 (f_14
 :
 Nat →
 Int),
 ∃
 (f_15
 :
 Nat →
 Int),
 ∃
 (x
 :
 ByteArray),
 ∃
 (x_45
 :
 Int),
 ∃
 (x_46
 :
 Bool),
 ∃
 (x_47
 :
 Bool),
 ∃
 (p_7
 :
 Option
 Addr),
 ∃
 (n_11
 :
 Nat),
 ∃
 (c_7
 :
 Nat),
 ∃
 (x_48
 :
 ByteArray),
 e =
 Ending.returned
 (Value.agg
 (arrI IntKind.u8 f_14 32 0 ++ (arrI IntKind.u8 f_15 16 0 ++ [Value.string
 x,
 Value.int
 IntKind.i64
 x_45,
 Value.bool
 x_46,
 Value.bool
 x_47,
 Value.slice
 p_7
 n_11
 c_7,
 Value.string
 x_48])).toArray) ∧
 S
 w' ∧
 CallsS
 Tryz.prog
 27
 #[Value.agg
 (arrI IntKind.u8 f 32 0 ++ (arrI IntKind.u8 f_11 16 0 ++ [Value.string
 x_35,
 Value.int
 IntKind.i64
 x_36,
 Value.bool
 x_37,
 Value.bool
 x_38,
 Value.slice
 p
 n
 c,
 Value.string
 x_39])).toArray,
 Value.agg
 (arrI IntKind.u8 f_14 32 0 ++ (arrI IntKind.u8 f_15 16 0 ++ [Value.string
 x,
 Value.int
 IntKind.i64
 x_45,
 Value.bool
 x_46,
 Value.bool
 x_47,
 Value.slice
 p_7
 n_11
 c_7,
 Value.string
 x_48])).toArray]
 w'
 fun
 (e :
 Ending)
 (w' :
 World) =>
 ∃
 (x
 :
 Bool),
 e =
 Ending.returned
 (Value.bool
 x) ∧
 S
 w' ∧
 ∃
 (f
 :
 Nat →
 Int),
 ∃
 (f_16
 :
 Nat →
 Int),
 ∃
 (x_49
 :
 ByteArray),
 ∃
 (x_50
 :
 Int),
 ∃
 (x_51
 :
 Bool),
 ∃
 (x_52
 :
 Bool),
 ∃
 (p
 :
 Option
 Addr),
 ∃
 (n
 :
 Nat),
 ∃
 (c
 :
 Nat),
 ∃
 (x_53
 :
 ByteArray),
 gimp
 (true &&
 x)
 (∀
 (w' :
 World),
 S
 w' →
 AtL
 w'
 n_7
 0
 (arrI IntKind.u8 f 32 0 ++ (arrI IntKind.u8 f_16 16 0 ++ [Value.string
 x_49,
 Value.int
 IntKind.i64
 x_50,
 Value.bool
 x_51,
 Value.bool
 x_52,
 Value.slice
 p
 n
 c,
 Value.string
 x_53]))) ∧
 ∃
 (f_17
 :
 Nat →
 Int),
 ∃
 (f_18
 :
 Nat →
 Int),
 ∃
 (x_54
 :
 ByteArray),
 ∃
 (x_55
 :
 Int),
 ∃
 (x_56
 :
 Bool),
 ∃
 (x_57
 :
 Bool),
 ∃
 (p_8
 :
 Option
 Addr),
 ∃
 (n_12
 :
 Nat),
 ∃
 (c_8
 :
 Nat),
 ∃
 (x_58
 :
 ByteArray),
 gimp
 (true &&
 x)
 (∀
 (w' :
 World),
 S
 w' →
 AtL
 w'
 n_8
 0
 (arrI IntKind.u8 f_17 32 0 ++ (arrI IntKind.u8 f_18 16 0 ++ [Value.string
 x_54,
 Value.int
 IntKind.i64
 x_55,
 Value.bool
 x_56,
 Value.bool
 x_57,
 Value.slice
 p_8
 n_12
 c_8,
 Value.string
 x_58]))) ∧
 ∃
 (f_19
 :
 Nat →
 Int),
 ∃
 (f_20
 :
 Nat →
 Int),
 ∃
 (x_59
 :
 ByteArray),
 ∃
 (x_60
 :
 Int),
 ∃
 (x_61
 :
 Bool),
 ∃
 (x_62
 :
 Bool),
 ∃
 (p_9
 :
 Option
 Addr),
 ∃
 (n_13
 :
 Nat),
 ∃
 (c_9
 :
 Nat),
 ∃
 (x_63
 :
 ByteArray),
 gimp
 (true &&
 x)
 (∀
 (w' :
 World),
 S
 w' →
 AtL
 w'
 n_7
 0
 (arrI IntKind.u8 f_19 32 0 ++ (arrI IntKind.u8 f_20 16 0 ++ [Value.string
 x_59,
 Value.int
 IntKind.i64
 x_60,
 Value.bool
 x_61,
 Value.bool
 x_62,
 Value.slice
 p_9
 n_13
 c_9,
 Value.string
 x_63]))) ∧
 ∃
 (f_21
 :
 Nat →
 Int),
 ∃
 (f_22
 :
 Nat →
 Int),
 ∃
 (x_64
 :
 ByteArray),
 ∃
 (x_65
 :
 Int),
 ∃
 (x_66
 :
 Bool),
 ∃
 (x_67
 :
 Bool),
 ∃
 (p_10
 :
 Option
 Addr),
 ∃
 (n_14
 :
 Nat),
 ∃
 (c_10
 :
 Nat),
 ∃
 (x_68
 :
 ByteArray),
 gimp
 (true &&
 x)
 (∀
 (w' :
 World),
 S
 w' →
 AtL
 w'
 n_8
 0
 (arrI IntKind.u8 f_21 32 0 ++ (arrI IntKind.u8 f_22 16 0 ++ [Value.string
 x_64,
 Value.int
 IntKind.i64
 x_65,
 Value.bool
 x_66,
 Value.bool
 x_67,
 Value.slice
 p_10
 n_14
 c_10,
 Value.string
 x_68]))) ∧
 bsp
 (true &&
 x)
 (CallsS
 Tryz.prog
 27
 #[Value.agg
 (arrI IntKind.u8 f 32 0 ++ (arrI IntKind.u8 f_16 16 0 ++ [Value.string
 x_49,
 Value.int
 IntKind.i64
 x_50,
 Value.bool
 x_51,
 Value.bool
 x_52,
 Value.slice
 p
 n
 c,
 Value.string
 x_53])).toArray,
 Value.agg
 (arrI IntKind.u8 f_17 32 0 ++ (arrI IntKind.u8 f_18 16 0 ++ [Value.string
 x_54,
 Value.int
 IntKind.i64
 x_55,
 Value.bool
 x_56,
 Value.bool
 x_57,
 Value.slice
 p_8
 n_12
 c_8,
 Value.string
 x_58])).toArray]
 w'
 fun
 (e :
 Ending)
 (w' :
 World) =>
 ∃
 (x
 :
 Bool),
 e =
 Ending.returned
 (Value.bool
 x) ∧
 S
 w' ∧
 CallsS
 Tryz.prog
 26
 #[Value.agg
 (arrI IntKind.u8 f_19 32 0 ++ (arrI IntKind.u8 f_20 16 0 ++ [Value.string
 x_59,
 Value.int
 IntKind.i64
 x_60,
 Value.bool
 x_61,
 Value.bool
 x_62,
 Value.slice
 p_9
 n_13
 c_9,
 Value.string
 x_63])).toArray]
 w'
 fun
 (e :
 Ending)
 (w' :
 World) =>
 ∃
 (f
 :
 Nat →
 Int),
 ∃
 (f_23
 :
 Nat →
 Int),
 ∃
 (x_69
 :
 ByteArray),
 ∃
 (x_70
 :
 Int),
 ∃
 (x_71
 :
 Bool),
 ∃
 (x_72
 :
 Bool),
 ∃
 (p
 :
 Option
 Addr),
 ∃
 (n
 :
 Nat),
 ∃
 (c
 :
 Nat),
 ∃
 (x_73
 :
 ByteArray),
 e =
 Ending.returned
 (Value.agg
 (arrI IntKind.u8 f 32 0 ++ (arrI IntKind.u8 f_23 16 0 ++ [Value.string
 x_69,
 Value.int
 IntKind.i64
 x_70,
 Value.bool
 x_71,
 Value.bool
 x_72,
 Value.slice
 p
 n
 c,
 Value.string
 x_73])).toArray) ∧
 S
 w' ∧
 CallsS
 Tryz.prog
 26
 #[Value.agg
 (arrI IntKind.u8 f_21 32 0 ++ (arrI IntKind.u8 f_22 16 0 ++ [Value.string
 x_64,
 Value.int
 IntKind.i64
 x_65,
 Value.bool
 x_66,
 Value.bool
 x_67,
 Value.slice
 p_10
 n_14
 c_10,
 Value.string
 x_68])).toArray]
 w'
 fun
 (e :
 Ending)
 (w' :
 World) =>
 ∃
 (f_24
 :
 Nat →
 Int),
 ∃
 (f_25
 :
 Nat →
 Int),
 ∃
 (x_74
 :
 ByteArray),
 ∃
 (x_75
 :
 Int),
 ∃
 (x_76
 :
 Bool),
 ∃
 (x_77
 :
 Bool),
 ∃
 (p_11
 :
 Option
 Addr),
 ∃
 (n_15
 :
 Nat),
 ∃
 (c_11
 :
 Nat),
 ∃
 (x_78
 :
 ByteArray),
 e =
 Ending.returned
 (Value.agg
 (arrI IntKind.u8 f_24 32 0 ++ (arrI IntKind.u8 f_25 16 0 ++ [Value.string
 x_74,
 Value.int
 IntKind.i64
 x_75,
 Value.bool
 x_76,
 Value.bool
 x_77,
 Value.slice
 p_11
 n_15
 c_11,
 Value.string
 x_78])).toArray) ∧
 CallsS
 Tryz.prog
 28
 #[Value.agg
 (arrI IntKind.u8 f 32 0 ++ (arrI IntKind.u8 f_23 16 0 ++ [Value.string
 x_69,
 Value.int
 IntKind.i64
 x_70,
 Value.bool
 x_71,
 Value.bool
 x_72,
 Value.slice
 p
 n
 c,
 Value.string
 x_73])).toArray,
 Value.agg
 (arrI IntKind.u8 f_24 32 0 ++ (arrI IntKind.u8 f_25 16 0 ++ [Value.string
 x_74,
 Value.int
 IntKind.i64
 x_75,
 Value.bool
 x_76,
 Value.bool
 x_77,
 Value.slice
 p_11
 n_15
 c_11,
 Value.string
 x_78])).toArray]
 w'
 fun
 (e :
 Ending)
 (w' :
 World) =>
 ∃
 (x_79
 :
 Bool),
 e =
 Ending.returned
 (Value.bool
 x_79) ∧
 KeptL
 [n_2,
 n_1]
 W
 w' ∧
 R
 (Ending.returned
 (Value.bool
 (true &&
 x ==
 x_79)))
 w')
 (S
 w' ∧
 S
 w' ∧
 KeptL
 [n_2,
 n_1]
 W
 w' ∧
 R
 (Ending.returned
 (Value.bool
 false))
 w'))
 (S
 w' ∧
 S
 w' ∧
 ∃
 (f
 :
 Nat →
 Int),
 ∃
 (f
 :
 Nat →
 Int),
 ∃
 (x
 :
 ByteArray),
 ∃
 (x
 :
 Int),
 ∃
 (x
 :
 Bool),
 ∃
 (x
 :
 Bool),
 ∃
 (p
 :
 Option
 Addr),
 ∃
 (n
 :
 Nat),
 ∃
 (c
 :
 Nat),
 ∃
 (x
 :
 ByteArray),
 True ∧
 ∃
 (f
 :
 Nat →
 Int),
 ∃
 (f
 :
 Nat →
 Int),
 ∃
 (x
 :
 ByteArray),
 ∃
 (x
 :
 Int),
 ∃
 (x
 :
 Bool),
 ∃
 (x
 :
 Bool),
 ∃
 (p
 :
 Option
 Addr),
 ∃
 (n
 :
 Nat),
 ∃
 (c
 :
 Nat),
 ∃
 (x
 :
 ByteArray),
 True ∧
 ∃
 (f
 :
 Nat →
 Int),
 ∃
 (f
 :
 Nat →
 Int),
 ∃
 (x
 :
 ByteArray),
 ∃
 (x
 :
 Int),
 ∃
 (x
 :
 Bool),
 ∃
 (x
 :
 Bool),
 ∃
 (p
 :
 Option
 Addr),
 ∃
 (n
 :
 Nat),
 ∃
 (c
 :
 Nat),
 ∃
 (x
 :
 ByteArray),
 True ∧
 ∃
 (f
 :
 Nat →
 Int),
 ∃
 (f
 :
 Nat →
 Int),
 ∃
 (x
 :
 ByteArray),
 ∃
 (x
 :
 Int),
 ∃
 (x
 :
 Bool),
 ∃
 (x
 :
 Bool),
 ∃
 (p
 :
 Option
 Addr),
 ∃
 (n
 :
 Nat),
 ∃
 (c
 :
 Nat),
 ∃
 (x
 :
 ByteArray),
 True ∧
 S
 w' ∧
 S
 w' ∧
 KeptL
 [n_2,
 n_1]
 W
 w' ∧
 R
 (Ending.returned
 (Value.bool
 false))
 w'))
 (S w' ∧
 S w' ∧
 S w' ∧
 ∃ (f : Nat → Int),
 ∃ (f : Nat → Int),
 ∃ (x :
 ByteArray),
 ∃ (x : Int),
 ∃ (x : Bool),
 ∃ (x : Bool),
 ∃ (p :
 Option
 Addr),
 ∃ (n : Nat),
 ∃ (c :
 Nat),
 ∃ (x :
 ByteArray),
 True ∧
 ∃ (f :
 Nat →
 Int),
 ∃ (f :
 Nat →
 Int),
 ∃ (x :
 ByteArray),
 ∃ (x
 :
 Int),
 ∃ (x
 :
 Bool),
 ∃
 (x
 :
 Bool),
 ∃
 (p
 :
 Option
 Addr),
 ∃
 (n
 :
 Nat),
 ∃
 (c
 :
 Nat),
 ∃
 (x
 :
 ByteArray),
 True ∧
 S
 w' ∧
 S
 w' ∧
 ∃
 (f
 :
 Nat →
 Int),
 ∃
 (f
 :
 Nat →
 Int),
 ∃
 (x
 :
 ByteArray),
 ∃
 (x
 :
 Int),
 ∃
 (x
 :
 Bool),
 ∃
 (x
 :
 Bool),
 ∃
 (p
 :
 Option
 Addr),
 ∃
 (n
 :
 Nat),
 ∃
 (c
 :
 Nat),
 ∃
 (x
 :
 ByteArray),
 True ∧
 ∃
 (f
 :
 Nat →
 Int),
 ∃
 (f
 :
 Nat →
 Int),
 ∃
 (x
 :
 ByteArray),
 ∃
 (x
 :
 Int),
 ∃
 (x
 :
 Bool),
 ∃
 (x
 :
 Bool),
 ∃
 (p
 :
 Option
 Addr),
 ∃
 (n
 :
 Nat),
 ∃
 (c
 :
 Nat),
 ∃
 (x
 :
 ByteArray),
 True ∧
 ∃
 (f
 :
 Nat →
 Int),
 ∃
 (f
 :
 Nat →
 Int),
 ∃
 (x
 :
 ByteArray),
 ∃
 (x
 :
 Int),
 ∃
 (x
 :
 Bool),
 ∃
 (x
 :
 Bool),
 ∃
 (p
 :
 Option
 Addr),
 ∃
 (n
 :
 Nat),
 ∃
 (c
 :
 Nat),
 ∃
 (x
 :
 ByteArray),
 True ∧
 ∃
 (f
 :
 Nat →
 Int),
 ∃
 (f
 :
 Nat →
 Int),
 ∃
 (x
 :
 ByteArray),
 ∃
 (x
 :
 Int),
 ∃
 (x
 :
 Bool),
 ∃
 (x
 :
 Bool),
 ∃
 (p
 :
 Option
 Addr),
 ∃
 (n
 :
 Nat),
 ∃
 (c
 :
 Nat),
 ∃
 (x
 :
 ByteArray),
 True ∧
 S
 w' ∧
 S
 w' ∧
 KeptL
 [n_2,
 n_1]
 W
 w' ∧
 R
 (Ending.returned
 (Value.bool
 false))
 w')) ∧
 ∀ (n_7 : Nat) (w1 : World),
 NewB w'
 (Obj.cells
 #[Value.int IntKind.u8 0, Value.int IntKind.u8 0,
 Value.int IntKind.u8 0, Value.int IntKind.u8 0,
 Value.int IntKind.u8 0, Value.int IntKind.u8 0,
 Value.int IntKind.u8 0, Value.int IntKind.u8 0,
 Value.int IntKind.u8 0, Value.int IntKind.u8 0,
 Value.int IntKind.u8 0, Value.int IntKind.u8 0,
 Value.int IntKind.u8 0, Value.int IntKind.u8 0,
 Value.int IntKind.u8 0, Value.int IntKind.u8 0,
 Value.int IntKind.u8 0, Value.int IntKind.u8 0,
 Value.int IntKind.u8 0, Value.int IntKind.u8 0,
 Value.int IntKind.u8 0, Value.int IntKind.u8 0,
 Value.int IntKind.u8 0, Value.int IntKind.u8 0,
 Value.int IntKind.u8 0, Value.int IntKind.u8 0,
 Value.int IntKind.u8 0, Value.int IntKind.u8 0,
 Value.int IntKind.u8 0, Value.int IntKind.u8 0,
 Value.int IntKind.u8 0, Value.int IntKind.u8 0,
 Value.int IntKind.u8 0, Value.int IntKind.u8 0,
 Value.int IntKind.u8 0, Value.int IntKind.u8 0,
 Value.int IntKind.u8 0, Value.int IntKind.u8 0,
 Value.int IntKind.u8 0, Value.int IntKind.u8 0,
 Value.int IntKind.u8 0, Value.int IntKind.u8 0,
 Value.int IntKind.u8 0, Value.int IntKind.u8 0,
 Value.int IntKind.u8 0, Value.int IntKind.u8 0,
 Value.int IntKind.u8 0, Value.int IntKind.u8 0,
 Value.string (ByteArray.mk #[]), Value.int IntKind.i64 0,
 Value.bool false, Value.bool false, Value.slice none 0 0,
 Value.string (ByteArray.mk #[])]
 56)
 n_7 w1 →
 S w1 ∧
 ∀ (n_8 : Nat) (w1_1 : World),
 NewB w1
 (Obj.cells
 #[Value.int IntKind.u8 0, Value.int IntKind.u8 0,
 Value.int IntKind.u8 0, Value.int IntKind.u8 0,
 Value.int IntKind.u8 0, Value.int IntKind.u8 0,
 Value.int IntKind.u8 0, Value.int IntKind.u8 0,
 Value.int IntKind.u8 0, Value.int IntKind.u8 0,
 Value.int IntKind.u8 0, Value.int IntKind.u8 0,
 Value.int IntKind.u8 0, Value.int IntKind.u8 0,
 Value.int IntKind.u8 0, Value.int IntKind.u8 0,
 Value.int IntKind.u8 0, Value.int IntKind.u8 0,
 Value.int IntKind.u8 0, Value.int IntKind.u8 0,
 Value.int IntKind.u8 0, Value.int IntKind.u8 0,
 Value.int IntKind.u8 0, Value.int IntKind.u8 0,
 Value.int IntKind.u8 0, Value.int IntKind.u8 0,
 Value.int IntKind.u8 0, Value.int IntKind.u8 0,
 Value.int IntKind.u8 0, Value.int IntKind.u8 0,
 Value.int IntKind.u8 0, Value.int IntKind.u8 0,
 Value.int IntKind.u8 0, Value.int IntKind.u8 0,
 Value.int IntKind.u8 0, Value.int IntKind.u8 0,
 Value.int IntKind.u8 0, Value.int IntKind.u8 0,
 Value.int IntKind.u8 0, Value.int IntKind.u8 0,
 Value.int IntKind.u8 0, Value.int IntKind.u8 0,
 Value.int IntKind.u8 0, Value.int IntKind.u8 0,
 Value.int IntKind.u8 0, Value.int IntKind.u8 0,
 Value.int IntKind.u8 0, Value.int IntKind.u8 0,
 Value.string (ByteArray.mk #[]), Value.int IntKind.i64 0,
 Value.bool false, Value.bool false, Value.slice none 0 0,
 Value.string (ByteArray.mk #[])]
 56)
 n_8 w1_1 →
 S w1_1 ∧
 WrL w1_1 n_8 0 54 ∧
 ∀ (w1 : World),
 PutB w1_1 n_8 0
 (arrI IntKind.u8 f 32 0 ++ (arrI IntKind.u8 f_4 16 0 ++ [Value.string x,
 Value.int IntKind.i64 x_10, Value.bool x_11,
 Value.bool x_12, Value.slice p_3 n_5 c_3,
 Value.string x_13]))
 w1 →
 WrL w1 n_7 0 54 ∧
 ∀ (w1_2 : World),
 PutB w1 n_7 0
 (arrI IntKind.u8 f_5 32 0 ++ (arrI IntKind.u8 f_6 16 0 ++ [Value.string x_14,
 Value.int IntKind.i64 x_15, Value.bool x_16,
 Value.bool x_17, Value.slice p_4 n_6 c_4,
 Value.string x_18]))
 w1_2 →
 KeptL [n_2, n_1] W w1_2 ∧
 ∀ (W : World),
 Loc w.heap.size
 [Blk.mk n_2 50
 (arrI IntKind.u8 id2 32 0 ++ (arrI IntKind.u8 au2 16 0 ++ [Value.string g2,
 Value.int IntKind.i64 v2, Value.bool rm2,
 Value.bool md2, Value.slice p2 n2 c2,
 Value.string t2]))
 0,
 Blk.mk n_1 50
 (arrI IntKind.u8 id 32 0 ++ (arrI IntKind.u8 au 16 0 ++ [Value.string g,
 Value.int IntKind.i64 v, Value.bool rm,
 Value.bool md, Value.slice p n c,
 Value.string t]))
 0]
 w1_2 W →
 ∃ (S : World → Prop),
 S W ∧
 CallsS Tryz.prog 15 #[] W
 fun (e : Ending) (w' : World) =>
 ∃ (x : Bool),
 e = Ending.returned (Value.bool x) ∧
 S w' ∧
 ∃ (f : Nat → Int),
 ∃ (f_7 : Nat → Int),
 ∃ (x_19 : ByteArray),
 ∃ (x_20 : Int),
 ∃ (x_21 : Bool),
 ∃ (x_22 : Bool),
 ∃ (p : Option Addr),
 ∃ (n : Nat),
 ∃ (c : Nat),
 ∃ (x_23 : ByteArray),
 gimp x
 (∀ (w' : World),
 S w' →
 AtL w' n_8 0
 (arrI IntKind.u8 f 32 0 ++ (arrI IntKind.u8 f_7 16 0 ++ [Value.string x_19,
 Value.int IntKind.i64 x_20,
 Value.bool x_21,
 Value.bool x_22,
 Value.slice p n c,
 Value.string x_23]))) ∧
 ∃ (f_8 : Nat → Int),
 ∃ (f_9 : Nat → Int),
 ∃ (x_24 : ByteArray),
 ∃ (x_25 : Int),
 ∃ (x_26 : Bool),
 ∃ (x_27 : Bool),
 ∃ (p_5 : Option Addr),
 ∃ (n_9 : Nat),
 ∃ (c_5 : Nat),
 ∃ (x_28 : ByteArray),
 gimp x
 (∀ (w' : World),
 S w' →
 AtL w' n_8 0
 (arrI IntKind.u8 f_8 32 0 ++ (arrI IntKind.u8 f_9 16 0 ++ [Value.string x_24,
 Value.int
 IntKind.i64 x_25,
 Value.bool x_26,
 Value.bool x_27,
 Value.slice p_5
 n_9 c_5,
 Value.string
 x_28]))) ∧
 bsp x
 (CallsS Tryz.prog 24
 #[Value.agg
 (arrI IntKind.u8 f 32 0 ++ (arrI IntKind.u8 f_7 16 0 ++ [Value.string x_19,
 Value.int
 IntKind.i64 x_20,
 Value.bool x_21,
 Value.bool x_22,
 Value.slice p n c,
 Value.string
 x_23])).toArray]
 w'
 fun (e : Ending)
 (w' : World) =>
 ∃ (x : Int),
 e =
 Ending.returned
 (Value.int
 IntKind.i64 x) ∧
 S w' ∧
 CallsS Tryz.prog
 26
 #[Value.agg
 (arrI IntKind.u8 f_8 32 0 ++ (arrI IntKind.u8 f_9 16 0 ++ [Value.string
 x_24,
 Value.int
 IntKind.i64
 x_25,
 Value.bool
 x_26,
 Value.bool
 x_27,
 Value.slice
 p_5 n_9 c_5,
 Value.string
 x_28])).toArray]
 w'
 fun (e : Ending)
 (w' : World) =>
 ∃ (f :
 Nat → Int),
 ∃ (f_10 :
 Nat → Int),
 ∃ (x_29 :
 ByteArray),
 ∃ (x_30 :
 Int),
 ∃ (x_31 :
 Bool),
 ∃ (x_32 :
 Bool),
 ∃ (p :
 Option
 Addr),
 ∃ (n :
 Nat),
 ∃ (c :
 Nat),
 ∃ (x_33
 :
 ByteArray),
 e =
 Ending.returned
 (Value.agg
 (arrI IntKind.u8 f 32 0 ++ (arrI IntKind.u8 f_10 16 0 ++ [Value.string
 x_29,
 Value.int
 IntKind.i64
 x_30,
 Value.bool
 x_31,
 Value.bool
 x_32,
 Value.slice
 p
 n
 c,
 Value.string
 x_33])).toArray) ∧
 S w' ∧
 CallsS
 Tryz.prog
 25
 #[Value.agg
 (arrI IntKind.u8 f 32 0 ++ (arrI IntKind.u8 f_10 16 0 ++ [Value.string
 x_29,
 Value.int
 IntKind.i64
 x_30,
 Value.bool
 x_31,
 Value.bool
 x_32,
 Value.slice
 p
 n
 c,
 Value.string
 x_33])).toArray]
 w'
 fun
 (e :
 Ending)
 (w' :
 World) =>
 ∃
 (x_34
 :
 Int),
 e =
 Ending.returned
 (Value.int
 IntKind.i64
 x_34) ∧
 S
 w' ∧
 ∃
 (f
 :
 Nat →
 Int),
 ∃
 (f_11
 :
 Nat →
 Int),
 ∃
 (x_35
 :
 ByteArray),
 ∃
 (x_36
 :
 Int),
 ∃
 (x_37
 :
 Bool),
 ∃
 (x_38
 :
 Bool),
 ∃
 (p
 :
 Option
 Addr),
 ∃
 (n
 :
 Nat),
 ∃
 (c
 :
 Nat),
 ∃
 (x_39
 :
 ByteArray),
 gimp
 (true &&
 x ==
 x_34)
 (∀
 (w' :
 World),
 S
 w' →
 AtL
 w'
 n_8
 0
 (arrI IntKind.u8 f 32 0 ++ (arrI IntKind.u8 f_11 16 0 ++ [Value.string
 x_35,
 Value.int
 IntKind.i64
 x_36,
 Value.bool
 x_37,
 Value.bool
 x_38,
 Value.slice
 p
 n
 c,
 Value.string
 x_39]))) ∧
 ∃
 (f_12
 :
 Nat →
 Int),
 ∃
 (f_13
 :
 Nat →
 Int),
 ∃
 (x_40
 :
 ByteArray),
 ∃
 (x_41
 :
 Int),
 ∃
 (x_42
 :
 Bool),
 ∃
 (x_43
 :
 Bool),
 ∃
 (p_6
 :
 Option
 Addr),
 ∃
 (n_10
 :
 Nat),
 ∃
 (c_6
 :
 Nat),
 ∃
 (x_44
 :
 ByteArray),
 gimp
 (true &&
 x ==
 x_34)
 (∀
 (w' :
 World),
 S
 w' →
 AtL
 w'
 n_1
 0
 (arrI IntKind.u8 f_12 32 0 ++ (arrI IntKind.u8 f_13 16 0 ++ [Value.string
 x_40,
 Value.int
 IntKind.i64
 x_41,
 Value.bool
 x_42,
 Value.bool
 x_43,
 Value.slice
 p_6
 n_10
 c_6,
 Value.string
 x_44]))) ∧
 bsp
 (true &&
 x ==
 x_34)
 (CallsS
 Tryz.prog
 23
 #[Value.agg
 (arrI IntKind.u8 f_12 32 0 ++ (arrI IntKind.u8 f_13 16 0 ++ [Value.string
 x_40,
 Value.int
 IntKind.i64
 x_41,
 Value.bool
 x_42,
 Value.bool
 x_43,
 Value.slice
 p_6
 n_10
 c_6,
 Value.string
 x_44])).toArray]
 w'
 fun
 (e :
 Ending)
 (w' :
 World) =>
 ∃
 (f_14
 :
 Nat →
 Int),
 ∃
 (f_15
 :
 Nat →
 Int),
 ∃
 (x
 :
 ByteArray),
 ∃
 (x_45
 :
 Int),
 ∃
 (x_46
 :
 Bool),
 ∃
 (x_47
 :
 Bool),
 ∃
 (p_7
 :
 Option
 Addr),
 ∃
 (n_11
 :
 Nat),
 ∃
 (c_7
 :
 Nat),
 ∃
 (x_48
 :
 ByteArray),
 e =
 Ending.returned
 (Value.agg
 (arrI IntKind.u8 f_14 32 0 ++ (arrI IntKind.u8 f_15 16 0 ++ [Value.string
 x,
 Value.int
 IntKind.i64
 x_45,
 Value.bool
 x_46,
 Value.bool
 x_47,
 Value.slice
 p_7
 n_11
 c_7,
 Value.string
 x_48])).toArray) ∧
 S
 w' ∧
 CallsS
 Tryz.prog
 27
 #[Value.agg
 (arrI IntKind.u8 f 32 0 ++ (arrI IntKind.u8 f_11 16 0 ++ [Value.string
 x_35,
 Value.int
 IntKind.i64
 x_36,
 Value.bool
 x_37,
 Value.bool
 x_38,
 Value.slice
 p
 n
 c,
 Value.string
 x_39])).toArray,
 Value.agg
 (arrI IntKind.u8 f_14 32 0 ++ (arrI IntKind.u8 f_15 16 0 ++ [Value.string
 x,
 Value.int
 IntKind.i64
 x_45,
 Value.bool
 x_46,
 Value.bool
 x_47,
 Value.slice
 p_7
 n_11
 c_7,
 Value.string
 x_48])).toArray]
 w'
 fun
 (e :
 Ending)
 (w' :
 World) =>
 ∃
 (x
 :
 Bool),
 e =
 Ending.returned
 (Value.bool
 x) ∧
 S
 w' ∧
 ∃
 (f
 :
 Nat →
 Int),
 ∃
 (f_16
 :
 Nat →
 Int),
 ∃
 (x_49
 :
 ByteArray),
 ∃
 (x_50
 :
 Int),
 ∃
 (x_51
 :
 Bool),
 ∃
 (x_52
 :
 Bool),
 ∃
 (p
 :
 Option
 Addr),
 ∃
 (n
 :
 Nat),
 ∃
 (c
 :
 Nat),
 ∃
 (x_53
 :
 ByteArray),
 gimp
 (true &&
 x)
 (∀
 (w' :
 World),
 S
 w' →
 AtL
 w'
 n_8
 0
 (arrI IntKind.u8 f 32 0 ++ (arrI IntKind.u8 f_16 16 0 ++ [Value.string
 x_49,
 Value.int
 IntKind.i64
 x_50,
 Value.bool
 x_51,
 Value.bool
 x_52,
 Value.slice
 p
 n
 c,
 Value.string
 x_53]))) ∧
 ∃
 (f_17
 :
 Nat →
 Int),
 ∃
 (f_18
 :
 Nat →
 Int),
 ∃
 (x_54
 :
 ByteArray),
 ∃
 (x_55
 :
 Int),
 ∃
 (x_56
 :
 Bool),
 ∃
 (x_57
 :
 Bool),
 ∃
 (p_8
 :
 Option
 Addr),
 ∃
 (n_12
 :
 Nat),
 ∃
 (c_8
 :
 Nat),
 ∃
 (x_58
 :
 ByteArray),
 gimp
 (true &&
 x)
 (∀
 (w' :
 World),
 S
 w' →
 AtL
 w'
 n_7
 0
 (arrI IntKind.u8 f_17 32 0 ++ (arrI IntKind.u8 f_18 16 0 ++ [Value.string
 x_54,
 Value.int
 IntKind.i64
 x_55,
 Value.bool
 x_56,
 Value.bool
 x_57,
 Value.slice
 p_8
 n_12
 c_8,
 Value.string
 x_58]))) ∧
 ∃
 (f_19
 :
 Nat →
 Int),
 ∃
 (f_20
 :
 Nat →
 Int),
 ∃
 (x_59
 :
 ByteArray),
 ∃
 (x_60
 :
 Int),
 ∃
 (x_61
 :
 Bool),
 ∃
 (x_62
 :
 Bool),
 ∃
 (p_9
 :
 Option
 Addr),
 ∃
 (n_13
 :
 Nat),
 ∃
 (c_9
 :
 Nat),
 ∃
 (x_63
 :
 ByteArray),
 gimp
 (true &&
 x)
 (∀
 (w' :
 World),
 S
 w' →
 AtL
 w'
 n_8
 0
 (arrI IntKind.u8 f_19 32 0 ++ (arrI IntKind.u8 f_20 16 0 ++ [Value.string
 x_59,
 Value.int
 IntKind.i64
 x_60,
 Value.bool
 x_61,
 Value.bool
 x_62,
 Value.slice
 p_9
 n_13
 c_9,
 Value.string
 x_63]))) ∧
 ∃
 (f_21
 :
 Nat →
 Int),
 ∃
 (f_22
 :
 Nat →
 Int),
 ∃
 (x_64
 :
 ByteArray),
 ∃
 (x_65
 :
 Int),
 ∃
 (x_66
 :
 Bool),
 ∃
 (x_67
 :
 Bool),
 ∃
 (p_10
 :
 Option
 Addr),
 ∃
 (n_14
 :
 Nat),
 ∃
 (c_10
 :
 Nat),
 ∃
 (x_68
 :
 ByteArray),
 gimp
 (true &&
 x)
 (∀
 (w' :
 World),
 S
 w' →
 AtL
 w'
 n_7
 0
 (arrI IntKind.u8 f_21 32 0 ++ (arrI IntKind.u8 f_22 16 0 ++ [Value.string
 x_64,
 Value.int
 IntKind.i64
 x_65,
 Value.bool
 x_66,
 Value.bool
 x_67,
 Value.slice
 p_10
 n_14
 c_10,
 Value.string
 x_68]))) ∧
 bsp
 (true &&
 x)
 (CallsS
 Tryz.prog
 27
 #[Value.agg
 (arrI IntKind.u8 f 32 0 ++ (arrI IntKind.u8 f_16 16 0 ++ [Value.string
 x_49,
 Value.int
 IntKind.i64
 x_50,
 Value.bool
 x_51,
 Value.bool
 x_52,
 Value.slice
 p
 n
 c,
 Value.string
 x_53])).toArray,
 Value.agg
 (arrI IntKind.u8 f_17 32 0 ++ (arrI IntKind.u8 f_18 16 0 ++ [Value.string
 x_54,
 Value.int
 IntKind.i64
 x_55,
 Value.bool
 x_56,
 Value.bool
 x_57,
 Value.slice
 p_8
 n_12
 c_8,
 Value.string
 x_58])).toArray]
 w'
 fun
 (e :
 Ending)
 (w' :
 World) =>
 ∃
 (x
 :
 Bool),
 e =
 Ending.returned
 (Value.bool
 x) ∧
 S
 w' ∧
 CallsS
 Tryz.prog
 26
 #[Value.agg
 (arrI IntKind.u8 f_19 32 0 ++ (arrI IntKind.u8 f_20 16 0 ++ [Value.string
 x_59,
 Value.int
 IntKind.i64
 x_60,
 Value.bool
 x_61,
 Value.bool
 x_62,
 Value.slice
 p_9
 n_13
 c_9,
 Value.string
 x_63])).toArray]
 w'
 fun
 (e :
 Ending)
 (w' :
 World) =>
 ∃
 (f
 :
 Nat →
 Int),
 ∃
 (f_23
 :
 Nat →
 Int),
 ∃
 (x_69
 :
 ByteArray),
 ∃
 (x_70
 :
 Int),
 ∃
 (x_71
 :
 Bool),
 ∃
 (x_72
 :
 Bool),
 ∃
 (p
 :
 Option
 Addr),
 ∃
 (n
 :
 Nat),
 ∃
 (c
 :
 Nat),
 ∃
 (x_73
 :
 ByteArray),
 e =
 Ending.returned
 (Value.agg
 (arrI IntKind.u8 f 32 0 ++ (arrI IntKind.u8 f_23 16 0 ++ [Value.string
 x_69,
 Value.int
 IntKind.i64
 x_70,
 Value.bool
 x_71,
 Value.bool
 x_72,
 Value.slice
 p
 n
 c,
 Value.string
 x_73])).toArray) ∧
 S
 w' ∧
 CallsS
 Tryz.prog
 26
 #[Value.agg
 (arrI IntKind.u8 f_21 32 0 ++ (arrI IntKind.u8 f_22 16 0 ++ [Value.string
 x_64,
 Value.int
 IntKind.i64
 x_65,
 Value.bool
 x_66,
 Value.bool
 x_67,
 Value.slice
 p_10
 n_14
 c_10,
 Value.string
 x_68])).toArray]
 w'
 fun
 (e :
 Ending)
 (w' :
 World) =>
 ∃
 (f_24
 :
 Nat →
 Int),
 ∃
 (f_25
 :
 Nat →
 Int),
 ∃
 (x_74
 :
 ByteArray),
 ∃
 (x_75
 :
 Int),
 ∃
 (x_76
 :
 Bool),
 ∃
 (x_77
 :
 Bool),
 ∃
 (p_11
 :
 Option
 Addr),
 ∃
 (n_15
 :
 Nat),
 ∃
 (c_11
 :
 Nat),
 ∃
 (x_78
 :
 ByteArray),
 e =
 Ending.returned
 (Value.agg
 (arrI IntKind.u8 f_24 32 0 ++ (arrI IntKind.u8 f_25 16 0 ++ [Value.string
 x_74,
 Value.int
 IntKind.i64
 x_75,
 Value.bool
 x_76,
 Value.bool
 x_77,
 Value.slice
 p_11
 n_15
 c_11,
 Value.string
 x_78])).toArray) ∧
 CallsS
 Tryz.prog
 28
 #[Value.agg
 (arrI IntKind.u8 f 32 0 ++ (arrI IntKind.u8 f_23 16 0 ++ [Value.string
 x_69,
 Value.int
 IntKind.i64
 x_70,
 Value.bool
 x_71,
 Value.bool
 x_72,
 Value.slice
 p
 n
 c,
 Value.string
 x_73])).toArray,
 Value.agg
 (arrI IntKind.u8 f_24 32 0 ++ (arrI IntKind.u8 f_25 16 0 ++ [Value.string
 x_74,
 Value.int
 IntKind.i64
 x_75,
 Value.bool
 x_76,
 Value.bool
 x_77,
 Value.slice
 p_11
 n_15
 c_11,
 Value.string
 x_78])).toArray]
 w'
 fun
 (e :
 Ending)
 (w' :
 World) =>
 ∃
 (x_79
 :
 Bool),
 e =
 Ending.returned
 (Value.bool
 x_79) ∧
 KeptL
 [n_2,
 n_1]
 W
 w' ∧
 R
 (Ending.returned
 (Value.bool
 (true &&
 x ==
 x_79)))
 w')
 (S
 w' ∧
 S
 w' ∧
 KeptL
 [n_2,
 n_1]
 W
 w' ∧
 R
 (Ending.returned
 (Value.bool
 false))
 w'))
 (S
 w' ∧
 S
 w' ∧
 ∃
 (f
 :
 Nat →
 Int),
 ∃
 (f
 :
 Nat →
 Int),
 ∃
 (x
 :
 ByteArray),
 ∃
 (x
 :
 Int),
 ∃
 (x
 :
 Bool),
 ∃
 (x
 :
 Bool),
 ∃
 (p
 :
 Option
 Addr),
 ∃
 (n
 :
 Nat),
 ∃
 (c
 :
 Nat),
 ∃
 (x
 :
 ByteArray),
 True ∧
 ∃
 (f
 :
 Nat →
 Int),
 ∃
 (f
 :
 Nat →
 Int),
 ∃
 (x
 :
 ByteArray),
 ∃
 (x
 :
 Int),
 ∃
 (x
 :
 Bool),
 ∃
 (x
 :
 Bool),
 ∃
 (p
 :
 Option
 Addr),
 ∃
 (n
 :
 Nat),
 ∃
 (c
 :
 Nat),
 ∃
 (x
 :
 ByteArray),
 True ∧
 ∃
 (f
 :
 Nat →
 Int),
 ∃
 (f
 :
 Nat →
 Int),
 ∃
 (x
 :
 ByteArray),
 ∃
 (x
 :
 Int),
 ∃
 (x
 :
 Bool),
 ∃
 (x
 :
 Bool),
 ∃
 (p
 :
 Option
 Addr),
 ∃
 (n
 :
 Nat),
 ∃
 (c
 :
 Nat),
 ∃
 (x
 :
 ByteArray),
 True ∧
 ∃
 (f
 :
 Nat →
 Int),
 ∃
 (f
 :
 Nat →
 Int),
 ∃
 (x
 :
 ByteArray),
 ∃
 (x
 :
 Int),
 ∃
 (x
 :
 Bool),
 ∃
 (x
 :
 Bool),
 ∃
 (p
 :
 Option
 Addr),
 ∃
 (n
 :
 Nat),
 ∃
 (c
 :
 Nat),
 ∃
 (x
 :
 ByteArray),
 True ∧
 S
 w' ∧
 S
 w' ∧
 KeptL
 [n_2,
 n_1]
 W
 w' ∧
 R
 (Ending.returned
 (Value.bool
 false))
 w'))
 (S w' ∧
 S w' ∧
 S w' ∧
 ∃ (f : Nat → Int),
 ∃ (f : Nat → Int),
 ∃ (x :
 ByteArray),
 ∃ (x : Int),
 ∃ (x : Bool),
 ∃ (x : Bool),
 ∃ (p :
 Option
 Addr),
 ∃ (n : Nat),
 ∃ (c :
 Nat),
 ∃ (x :
 ByteArray),
 True ∧
 ∃ (f :
 Nat →
 Int),
 ∃ (f :
 Nat →
 Int),
 ∃ (x :
 ByteArray),
 ∃ (x
 :
 Int),
 ∃ (x
 :
 Bool),
 ∃
 (x
 :
 Bool),
 ∃
 (p
 :
 Option
 Addr),
 ∃
 (n
 :
 Nat),
 ∃
 (c
 :
 Nat),
 ∃
 (x
 :
 ByteArray),
 True ∧
 S
 w' ∧
 S
 w' ∧
 ∃
 (f
 :
 Nat →
 Int),
 ∃
 (f
 :
 Nat →
 Int),
 ∃
 (x
 :
 ByteArray),
 ∃
 (x
 :
 Int),
 ∃
 (x
 :
 Bool),
 ∃
 (x
 :
 Bool),
 ∃
 (p
 :
 Option
 Addr),
 ∃
 (n
 :
 Nat),
 ∃
 (c
 :
 Nat),
 ∃
 (x
 :
 ByteArray),
 True ∧
 ∃
 (f
 :
 Nat →
 Int),
 ∃
 (f
 :
 Nat →
 Int),
 ∃
 (x
 :
 ByteArray),
 ∃
 (x
 :
 Int),
 ∃
 (x
 :
 Bool),
 ∃
 (x
 :
 Bool),
 ∃
 (p
 :
 Option
 Addr),
 ∃
 (n
 :
 Nat),
 ∃
 (c
 :
 Nat),
 ∃
 (x
 :
 ByteArray),
 True ∧
 ∃
 (f
 :
 Nat →
 Int),
 ∃
 (f
 :
 Nat →
 Int),
 ∃
 (x
 :
 ByteArray),
 ∃
 (x
 :
 Int),
 ∃
 (x
 :
 Bool),
 ∃
 (x
 :
 Bool),
 ∃
 (p
 :
 Option
 Addr),
 ∃
 (n
 :
 Nat),
 ∃
 (c
 :
 Nat),
 ∃
 (x
 :
 ByteArray),
 True ∧
 ∃
 (f
 :
 Nat →
 Int),
 ∃
 (f
 :
 Nat →
 Int),
 ∃
 (x
 :
 ByteArray),
 ∃
 (x
 :
 Int),
 ∃
 (x
 :
 Bool),
 ∃
 (x
 :
 Bool),
 ∃
 (p
 :
 Option
 Addr),
 ∃
 (n
 :
 Nat),
 ∃
 (c
 :
 Nat),
 ∃
 (x
 :
 ByteArray),
 True ∧
 S
 w' ∧
 S
 w' ∧
 KeptL
 [n_2,
 n_1]
 W
 w' ∧
 R
 (Ending.returned
 (Value.bool
 false))
 w')) ∧
 (∀ (n_6 : Nat) (w1 : World),
 NewB w'
 (Obj.cells
 #[Value.int IntKind.u8 0, Value.int IntKind.u8 0, Value.int IntKind.u8 0,
 Value.int IntKind.u8 0, Value.int IntKind.u8 0, Value.int IntKind.u8 0,
 Value.int IntKind.u8 0, Value.int IntKind.u8 0, Value.int IntKind.u8 0,
 Value.int IntKind.u8 0, Value.int IntKind.u8 0, Value.int IntKind.u8 0,
 Value.int IntKind.u8 0, Value.int IntKind.u8 0, Value.int IntKind.u8 0,
 Value.int IntKind.u8 0, Value.int IntKind.u8 0, Value.int IntKind.u8 0,
 Value.int IntKind.u8 0, Value.int IntKind.u8 0, Value.int IntKind.u8 0,
 Value.int IntKind.u8 0, Value.int IntKind.u8 0, Value.int IntKind.u8 0,
 Value.int IntKind.u8 0, Value.int IntKind.u8 0, Value.int IntKind.u8 0,
 Value.int IntKind.u8 0, Value.int IntKind.u8 0, Value.int IntKind.u8 0,
 Value.int IntKind.u8 0, Value.int IntKind.u8 0, Value.int IntKind.u8 0,
 Value.int IntKind.u8 0, Value.int IntKind.u8 0, Value.int IntKind.u8 0,
 Value.int IntKind.u8 0, Value.int IntKind.u8 0, Value.int IntKind.u8 0,
 Value.int IntKind.u8 0, Value.int IntKind.u8 0, Value.int IntKind.u8 0,
 Value.int IntKind.u8 0, Value.int IntKind.u8 0, Value.int IntKind.u8 0,
 Value.int IntKind.u8 0, Value.int IntKind.u8 0, Value.int IntKind.u8 0,
 Value.string (ByteArray.mk #[]), Value.int IntKind.i64 0,
 Value.bool false, Value.bool false, Value.slice none 0 0,
 Value.string (ByteArray.mk #[])]
 56)
 n_6 w1 →
 S w1 ∧
 (CallsS Tryz.prog 23
 #[Value.agg
 (arrI IntKind.u8 f_2 32 0 ++ (arrI IntKind.u8 f_3 16 0 ++ [Value.string x_5, Value.int IntKind.i64 x_6, Value.bool x_7,
 Value.bool x_8, Value.slice p_2 n_4 c_2, Value.string x_9])).toArray]
 w1 fun (e : Ending) (w' : World) =>
 ∃ (f_5 : Nat → Int),
 ∃ (f_6 : Nat → Int),
 ∃ (x_14 : ByteArray),
 ∃ (x_15 : Int),
 ∃ (x_16 : Bool),
 ∃ (x_17 : Bool),
 ∃ (p_4 : Option Addr),
 ∃ (n_7 : Nat),
 ∃ (c_4 : Nat),
 ∃ (x_18 : ByteArray),
 e =
 Ending.returned
 (Value.agg
 (arrI IntKind.u8 f_5 32 0 ++ (arrI IntKind.u8 f_6 16 0 ++ [Value.string x_14,
 Value.int IntKind.i64 x_15, Value.bool x_16,
 Value.bool x_17, Value.slice p_4 n_7 c_4,
 Value.string x_18])).toArray) ∧
 ∀ (n_8 : Nat) (w1 : World),
 NewB w'
 (Obj.cells
 #[Value.int IntKind.u8 0, Value.int IntKind.u8 0,
 Value.int IntKind.u8 0, Value.int IntKind.u8 0,
 Value.int IntKind.u8 0, Value.int IntKind.u8 0,
 Value.int IntKind.u8 0, Value.int IntKind.u8 0,
 Value.int IntKind.u8 0, Value.int IntKind.u8 0,
 Value.int IntKind.u8 0, Value.int IntKind.u8 0,
 Value.int IntKind.u8 0, Value.int IntKind.u8 0,
 Value.int IntKind.u8 0, Value.int IntKind.u8 0,
 Value.int IntKind.u8 0, Value.int IntKind.u8 0,
 Value.int IntKind.u8 0, Value.int IntKind.u8 0,
 Value.int IntKind.u8 0, Value.int IntKind.u8 0,
 Value.int IntKind.u8 0, Value.int IntKind.u8 0,
 Value.int IntKind.u8 0, Value.int IntKind.u8 0,
 Value.int IntKind.u8 0, Value.int IntKind.u8 0,
 Value.int IntKind.u8 0, Value.int IntKind.u8 0,
 Value.int IntKind.u8 0, Value.int IntKind.u8 0,
 Value.int IntKind.u8 0, Value.int IntKind.u8 0,
 Value.int IntKind.u8 0, Value.int IntKind.u8 0,
 Value.int IntKind.u8 0, Value.int IntKind.u8 0,
 Value.int IntKind.u8 0, Value.int IntKind.u8 0,
 Value.int IntKind.u8 0, Value.int IntKind.u8 0,
 Value.int IntKind.u8 0, Value.int IntKind.u8 0,
 Value.int IntKind.u8 0, Value.int IntKind.u8 0,
 Value.int IntKind.u8 0, Value.int IntKind.u8 0,
 Value.string (ByteArray.mk #[]), Value.int IntKind.i64 0,
 Value.bool false, Value.bool false, Value.slice none 0 0,
 Value.string (ByteArray.mk #[])]
 56)
 n_8 w1 →
 S w1 ∧
 WrL w1 n_6 0 54 ∧
 ∀ (w1_1 : World),
 PutB w1 n_6 0
 (arrI IntKind.u8 f 32 0 ++ (arrI IntKind.u8 f_4 16 0 ++ [Value.string x,
 Value.int IntKind.i64 x_10, Value.bool x_11,
 Value.bool x_12, Value.slice p_3 n_5 c_3,
 Value.string x_13]))
 w1_1 →
 WrL w1_1 n_8 0 54 ∧
 ∀ (w1 : World),
 PutB w1_1 n_8 0
 (arrI IntKind.u8 f_5 32 0 ++ (arrI IntKind.u8 f_6 16 0 ++ [Value.string x_14,
 Value.int IntKind.i64 x_15, Value.bool x_16,
 Value.bool x_17, Value.slice p_4 n_7 c_4,
 Value.string x_18]))
 w1 →
 KeptL [n_2, n_1] W w1 ∧
 ∀ (W : World),
 Loc w.heap.size
 [Blk.mk n_2 50
 (arrI IntKind.u8 id2 32 0 ++ (arrI IntKind.u8 au2 16 0 ++ [Value.string g2, Value.int IntKind.i64 v2,
 Value.bool rm2, Value.bool md2,
 Value.slice p2 n2 c2, Value.string t2]))
 0,
 Blk.mk n_1 50
 (arrI IntKind.u8 id 32 0 ++ (arrI IntKind.u8 au 16 0 ++ [Value.string g,
 Value.int IntKind.i64 v, Value.bool rm,
 Value.bool md, Value.slice p n c,
 Value.string t]))
 0]
 w1 W →
 ∃ (S : World → Prop),
 S W ∧
 CallsS Tryz.prog 15 #[] W
 fun (e : Ending) (w' : World) =>
 ∃ (x : Bool),
 e = Ending.returned (Value.bool x) ∧
 S w' ∧
 ∃ (f : Nat → Int),
 ∃ (f_7 : Nat → Int),
 ∃ (x_19 : ByteArray),
 ∃ (x_20 : Int),
 ∃ (x_21 : Bool),
 ∃ (x_22 : Bool),
 ∃ (p : Option Addr),
 ∃ (n : Nat),
 ∃ (c : Nat),
 ∃ (x_23 : ByteArray),
 gimp x
 (∀ (w' : World),
 S w' →
 AtL w' n_6 0
 (arrI IntKind.u8 f 32 0 ++ (arrI IntKind.u8 f_7 16 0 ++ [Value.string x_19,
 Value.int IntKind.i64 x_20,
 Value.bool x_21,
 Value.bool x_22,
 Value.slice p n c,
 Value.string x_23]))) ∧
 ∃ (f_8 : Nat → Int),
 ∃ (f_9 : Nat → Int),
 ∃ (x_24 : ByteArray),
 ∃ (x_25 : Int),
 ∃ (x_26 : Bool),
 ∃ (x_27 : Bool),
 ∃ (p_5 : Option Addr),
 ∃ (n_9 : Nat),
 ∃ (c_5 : Nat),
 ∃ (x_28 : ByteArray),
 gimp x
 (∀ (w' : World),
 S w' →
 AtL w' n_6 0
 (arrI IntKind.u8 f_8 32 0 ++ (arrI IntKind.u8 f_9 16 0 ++ [Value.string
 x_24,
 Value.int
 IntKind.i64
 x_25,
 Value.bool x_26,
 Value.bool x_27,
 Value.slice p_5
 n_9 c_5,
 Value.string
 x_28]))) ∧
 bsp x
 (CallsS Tryz.prog 24
 #[Value.agg
 (arrI IntKind.u8 f 32 0 ++ (arrI IntKind.u8 f_7 16 0 ++ [Value.string
 x_19,
 Value.int
 IntKind.i64
 x_20,
 Value.bool x_21,
 Value.bool x_22,
 Value.slice p n
 c,
 Value.string
 x_23])).toArray]
 w'
 fun (e : Ending)
 (w' : World) =>
 ∃ (x : Int),
 e =
 Ending.returned
 (Value.int
 IntKind.i64
 x) ∧
 S w' ∧
 CallsS Tryz.prog
 26
 #[Value.agg
 (arrI IntKind.u8 f_8 32 0 ++ (arrI IntKind.u8 f_9 16 0 ++ [Value.string
 x_24,
 Value.int
 IntKind.i64
 x_25,
 Value.bool
 x_26,
 Value.bool
 x_27,
 Value.slice
 p_5 n_9 c_5,
 Value.string
 x_28])).toArray]
 w'
 fun (e : Ending)
 (w' : World) =>
 ∃ (f :
 Nat → Int),
 ∃ (f_10 :
 Nat → Int),
 ∃ (x_29 :
 ByteArray),
 ∃ (x_30 :
 Int),
 ∃ (x_31 :
 Bool),
 ∃ (x_32 :
 Bool),
 ∃ (p :
 Option
 Addr),
 ∃ (n :
 Nat),
 ∃ (c :
 Nat),
 ∃ (x_33
 :
 ByteArray),
 e =
 Ending.returned
 (Value.agg
 (arrI IntKind.u8 f 32 0 ++ (arrI IntKind.u8 f_10 16 0 ++ [Value.string
 x_29,
 Value.int
 IntKind.i64
 x_30,
 Value.bool
 x_31,
 Value.bool
 x_32,
 Value.slice
 p
 n
 c,
 Value.string
 x_33])).toArray) ∧
 S
 w' ∧
 CallsS
 Tryz.prog
 25
 #[Value.agg
 (arrI IntKind.u8 f 32 0 ++ (arrI IntKind.u8 f_10 16 0 ++ [Value.string
 x_29,
 Value.int
 IntKind.i64
 x_30,
 Value.bool
 x_31,
 Value.bool
 x_32,
 Value.slice
 p
 n
 c,
 Value.string
 x_33])).toArray]
 w'
 fun
 (e :
 Ending)
 (w' :
 World) =>
 ∃
 (x_34
 :
 Int),
 e =
 Ending.returned
 (Value.int
 IntKind.i64
 x_34) ∧
 S
 w' ∧
 ∃
 (f
 :
 Nat →
 Int),
 ∃
 (f_11
 :
 Nat →
 Int),
 ∃
 (x_35
 :
 ByteArray),
 ∃
 (x_36
 :
 Int),
 ∃
 (x_37
 :
 Bool),
 ∃
 (x_38
 :
 Bool),
 ∃
 (p
 :
 Option
 Addr),
 ∃
 (n
 :
 Nat),
 ∃
 (c
 :
 Nat),
 ∃
 (x_39
 :
 ByteArray),
 gimp
 (true &&
 x ==
 x_34)
 (∀
 (w' :
 World),
 S
 w' →
 AtL
 w'
 n_6
 0
 (arrI IntKind.u8 f 32 0 ++ (arrI IntKind.u8 f_11 16 0 ++ [Value.string
 x_35,
 Value.int
 IntKind.i64
 x_36,
 Value.bool
 x_37,
 Value.bool
 x_38,
 Value.slice
 p
 n
 c,
 Value.string
 x_39]))) ∧
 ∃
 (f_12
 :
 Nat →
 Int),
 ∃
 (f_13
 :
 Nat →
 Int),
 ∃
 (x_40
 :
 ByteArray),
 ∃
 (x_41
 :
 Int),
 ∃
 (x_42
 :
 Bool),
 ∃
 (x_43
 :
 Bool),
 ∃
 (p_6
 :
 Option
 Addr),
 ∃
 (n_10
 :
 Nat),
 ∃
 (c_6
 :
 Nat),
 ∃
 (x_44
 :
 ByteArray),
 gimp
 (true &&
 x ==
 x_34)
 (∀
 (w' :
 World),
 S
 w' →
 AtL
 w'
 n_1
 0
 (arrI IntKind.u8 f_12 32 0 ++ (arrI IntKind.u8 f_13 16 0 ++ [Value.string
 x_40,
 Value.int
 IntKind.i64
 x_41,
 Value.bool
 x_42,
 Value.bool
 x_43,
 Value.slice
 p_6
 n_10
 c_6,
 Value.string
 x_44]))) ∧
 bsp
 (true &&
 x ==
 x_34)
 (CallsS
 Tryz.prog
 23
 #[Value.agg
 (arrI IntKind.u8 f_12 32 0 ++ (arrI IntKind.u8 f_13 16 0 ++ [Value.string
 x_40,
 Value.int
 IntKind.i64
 x_41,
 Value.bool
 x_42,
 Value.bool
 x_43,
 Value.slice
 p_6
 n_10
 c_6,
 Value.string
 x_44])).toArray]
 w'
 fun
 (e :
 Ending)
 (w' :
 World) =>
 ∃
 (f_14
 :
 Nat →
 Int),
 ∃
 (f_15
 :
 Nat →
 Int),
 ∃
 (x
 :
 ByteArray),
 ∃
 (x_45
 :
 Int),
 ∃
 (x_46
 :
 Bool),
 ∃
 (x_47
 :
 Bool),
 ∃
 (p_7
 :
 Option
 Addr),
 ∃
 (n_11
 :
 Nat),
 ∃
 (c_7
 :
 Nat),
 ∃
 (x_48
 :
 ByteArray),
 e =
 Ending.returned
 (Value.agg
 (arrI IntKind.u8 f_14 32 0 ++ (arrI IntKind.u8 f_15 16 0 ++ [Value.string
 x,
 Value.int
 IntKind.i64
 x_45,
 Value.bool
 x_46,
 Value.bool
 x_47,
 Value.slice
 p_7
 n_11
 c_7,
 Value.string
 x_48])).toArray) ∧
 S
 w' ∧
 CallsS
 Tryz.prog
 27
 #[Value.agg
 (arrI IntKind.u8 f 32 0 ++ (arrI IntKind.u8 f_11 16 0 ++ [Value.string
 x_35,
 Value.int
 IntKind.i64
 x_36,
 Value.bool
 x_37,
 Value.bool
 x_38,
 Value.slice
 p
 n
 c,
 Value.string
 x_39])).toArray,
 Value.agg
 (arrI IntKind.u8 f_14 32 0 ++ (arrI IntKind.u8 f_15 16 0 ++ [Value.string
 x,
 Value.int
 IntKind.i64
 x_45,
 Value.bool
 x_46,
 Value.bool
 x_47,
 Value.slice
 p_7
 n_11
 c_7,
 Value.string
 x_48])).toArray]
 w'
 fun
 (e :
 Ending)
 (w' :
 World) =>
 ∃
 (x
 :
 Bool),
 e =
 Ending.returned
 (Value.bool
 x) ∧
 S
 w' ∧
 ∃
 (f
 :
 Nat →
 Int),
 ∃
 (f_16
 :
 Nat →
 Int),
 ∃
 (x_49
 :
 ByteArray),
 ∃
 (x_50
 :
 Int),
 ∃
 (x_51
 :
 Bool),
 ∃
 (x_52
 :
 Bool),
 ∃
 (p
 :
 Option
 Addr),
 ∃
 (n
 :
 Nat),
 ∃
 (c
 :
 Nat),
 ∃
 (x_53
 :
 ByteArray),
 gimp
 (true &&
 x)
 (∀
 (w' :
 World),
 S
 w' →
 AtL
 w'
 n_6
 0
 (arrI IntKind.u8 f 32 0 ++ (arrI IntKind.u8 f_16 16 0 ++ [Value.string
 x_49,
 Value.int
 IntKind.i64
 x_50,
 Value.bool
 x_51,
 Value.bool
 x_52,
 Value.slice
 p
 n
 c,
 Value.string
 x_53]))) ∧
 ∃
 (f_17
 :
 Nat →
 Int),
 ∃
 (f_18
 :
 Nat →
 Int),
 ∃
 (x_54
 :
 ByteArray),
 ∃
 (x_55
 :
 Int),
 ∃
 (x_56
 :
 Bool),
 ∃
 (x_57
 :
 Bool),
 ∃
 (p_8
 :
 Option
 Addr),
 ∃
 (n_12
 :
 Nat),
 ∃
 (c_8
 :
 Nat),
 ∃
 (x_58
 :
 ByteArray),
 gimp
 (true &&
 x)
 (∀
 (w' :
 World),
 S
 w' →
 AtL
 w'
 n_8
 0
 (arrI IntKind.u8 f_17 32 0 ++ (arrI IntKind.u8 f_18 16 0 ++ [Value.string
 x_54,
 Value.int
 IntKind.i64
 x_55,
 Value.bool
 x_56,
 Value.bool
 x_57,
 Value.slice
 p_8
 n_12
 c_8,
 Value.string
 x_58]))) ∧
 ∃
 (f_19
 :
 Nat →
 Int),
 ∃
 (f_20
 :
 Nat →
 Int),
 ∃
 (x_59
 :
 ByteArray),
 ∃
 (x_60
 :
 Int),
 ∃
 (x_61
 :
 Bool),
 ∃
 (x_62
 :
 Bool),
 ∃
 (p_9
 :
 Option
 Addr),
 ∃
 (n_13
 :
 Nat),
 ∃
 (c_9
 :
 Nat),
 ∃
 (x_63
 :
 ByteArray),
 gimp
 (true &&
 x)
 (∀
 (w' :
 World),
 S
 w' →
 AtL
 w'
 n_6
 0
 (arrI IntKind.u8 f_19 32 0 ++ (arrI IntKind.u8 f_20 16 0 ++ [Value.string
 x_59,
 Value.int
 IntKind.i64
 x_60,
 Value.bool
 x_61,
 Value.bool
 x_62,
 Value.slice
 p_9
 n_13
 c_9,
 Value.string
 x_63]))) ∧
 ∃
 (f_21
 :
 Nat →
 Int),
 ∃
 (f_22
 :
 Nat →
 Int),
 ∃
 (x_64
 :
 ByteArray),
 ∃
 (x_65
 :
 Int),
 ∃
 (x_66
 :
 Bool),
 ∃
 (x_67
 :
 Bool),
 ∃
 (p_10
 :
 Option
 Addr),
 ∃
 (n_14
 :
 Nat),
 ∃
 (c_10
 :
 Nat),
 ∃
 (x_68
 :
 ByteArray),
 gimp
 (true &&
 x)
 (∀
 (w' :
 World),
 S
 w' →
 AtL
 w'
 n_8
 0
 (arrI IntKind.u8 f_21 32 0 ++ (arrI IntKind.u8 f_22 16 0 ++ [Value.string
 x_64,
 Value.int
 IntKind.i64
 x_65,
 Value.bool
 x_66,
 Value.bool
 x_67,
 Value.slice
 p_10
 n_14
 c_10,
 Value.string
 x_68]))) ∧
 bsp
 (true &&
 x)
 (CallsS
 Tryz.prog
 27
 #[Value.agg
 (arrI IntKind.u8 f 32 0 ++ (arrI IntKind.u8 f_16 16 0 ++ [Value.string
 x_49,
 Value.int
 IntKind.i64
 x_50,
 Value.bool
 x_51,
 Value.bool
 x_52,
 Value.slice
 p
 n
 c,
 Value.string
 x_53])).toArray,
 Value.agg
 (arrI IntKind.u8 f_17 32 0 ++ (arrI IntKind.u8 f_18 16 0 ++ [Value.string
 x_54,
 Value.int
 IntKind.i64
 x_55,
 Value.bool
 x_56,
 Value.bool
 x_57,
 Value.slice
 p_8
 n_12
 c_8,
 Value.string
 x_58])).toArray]
 w'
 fun
 (e :
 Ending)
 (w' :
 World) =>
 ∃
 (x
 :
 Bool),
 e =
 Ending.returned
 (Value.bool
 x) ∧
 S
 w' ∧
 CallsS
 Tryz.prog
 26
 #[Value.agg
 (arrI IntKind.u8 f_19 32 0 ++ (arrI IntKind.u8 f_20 16 0 ++ [Value.string
 x_59,
 Value.int
 IntKind.i64
 x_60,
 Value.bool
 x_61,
 Value.bool
 x_62,
 Value.slice
 p_9
 n_13
 c_9,
 Value.string
 x_63])).toArray]
 w'
 fun
 (e :
 Ending)
 (w' :
 World) =>
 ∃
 (f
 :
 Nat →
 Int),
 ∃
 (f_23
 :
 Nat →
 Int),
 ∃
 (x_69
 :
 ByteArray),
 ∃
 (x_70
 :
 Int),
 ∃
 (x_71
 :
 Bool),
 ∃
 (x_72
 :
 Bool),
 ∃
 (p
 :
 Option
 Addr),
 ∃
 (n
 :
 Nat),
 ∃
 (c
 :
 Nat),
 ∃
 (x_73
 :
 ByteArray),
 e =
 Ending.returned
 (Value.agg
 (arrI IntKind.u8 f 32 0 ++ (arrI IntKind.u8 f_23 16 0 ++ [Value.string
 x_69,
 Value.int
 IntKind.i64
 x_70,
 Value.bool
 x_71,
 Value.bool
 x_72,
 Value.slice
 p
 n
 c,
 Value.string
 x_73])).toArray) ∧
 S
 w' ∧
 CallsS
 Tryz.prog
 26
 #[Value.agg
 (arrI IntKind.u8 f_21 32 0 ++ (arrI IntKind.u8 f_22 16 0 ++ [Value.string
 x_64,
 Value.int
 IntKind.i64
 x_65,
 Value.bool
 x_66,
 Value.bool
 x_67,
 Value.slice
 p_10
 n_14
 c_10,
 Value.string
 x_68])).toArray]
 w'
 fun
 (e :
 Ending)
 (w' :
 World) =>
 ∃
 (f_24
 :
 Nat →
 Int),
 ∃
 (f_25
 :
 Nat →
 Int),
 ∃
 (x_74
 :
 ByteArray),
 ∃
 (x_75
 :
 Int),
 ∃
 (x_76
 :
 Bool),
 ∃
 (x_77
 :
 Bool),
 ∃
 (p_11
 :
 Option
 Addr),
 ∃
 (n_15
 :
 Nat),
 ∃
 (c_11
 :
 Nat),
 ∃
 (x_78
 :
 ByteArray),
 e =
 Ending.returned
 (Value.agg
 (arrI IntKind.u8 f_24 32 0 ++ (arrI IntKind.u8 f_25 16 0 ++ [Value.string
 x_74,
 Value.int
 IntKind.i64
 x_75,
 Value.bool
 x_76,
 Value.bool
 x_77,
 Value.slice
 p_11
 n_15
 c_11,
 Value.string
 x_78])).toArray) ∧
 CallsS
 Tryz.prog
 28
 #[Value.agg
 (arrI IntKind.u8 f 32 0 ++ (arrI IntKind.u8 f_23 16 0 ++ [Value.string
 x_69,
 Value.int
 IntKind.i64
 x_70,
 Value.bool
 x_71,
 Value.bool
 x_72,
 Value.slice
 p
 n
 c,
 Value.string
 x_73])).toArray,
 Value.agg
 (arrI IntKind.u8 f_24 32 0 ++ (arrI IntKind.u8 f_25 16 0 ++ [Value.string
 x_74,
 Value.int
 IntKind.i64
 x_75,
 Value.bool
 x_76,
 Value.bool
 x_77,
 Value.slice
 p_11
 n_15
 c_11,
 Value.string
 x_78])).toArray]
 w'
 fun
 (e :
 Ending)
 (w' :
 World) =>
 ∃
 (x_79
 :
 Bool),
 e =
 Ending.returned
 (Value.bool
 x_79) ∧
 KeptL
 [n_2,
 n_1]
 W
 w' ∧
 R
 (Ending.returned
 (Value.bool
 (true &&
 x ==
 x_79)))
 w')
 (S
 w' ∧
 S
 w' ∧
 KeptL
 [n_2,
 n_1]
 W
 w' ∧
 R
 (Ending.returned
 (Value.bool
 false))
 w'))
 (S
 w' ∧
 S
 w' ∧
 ∃
 (f
 :
 Nat →
 Int),
 ∃
 (f
 :
 Nat →
 Int),
 ∃
 (x
 :
 ByteArray),
 ∃
 (x
 :
 Int),
 ∃
 (x
 :
 Bool),
 ∃
 (x
 :
 Bool),
 ∃
 (p
 :
 Option
 Addr),
 ∃
 (n
 :
 Nat),
 ∃
 (c
 :
 Nat),
 ∃
 (x
 :
 ByteArray),
 True ∧
 ∃
 (f
 :
 Nat →
 Int),
 ∃
 (f
 :
 Nat →
 Int),
 ∃
 (x
 :
 ByteArray),
 ∃
 (x
 :
 Int),
 ∃
 (x
 :
 Bool),
 ∃
 (x
 :
 Bool),
 ∃
 (p
 :
 Option
 Addr),
 ∃
 (n
 :
 Nat),
 ∃
 (c
 :
 Nat),
 ∃
 (x
 :
 ByteArray),
 True ∧
 ∃
 (f
 :
 Nat →
 Int),
 ∃
 (f
 :
 Nat →
 Int),
 ∃
 (x
 :
 ByteArray),
 ∃
 (x
 :
 Int),
 ∃
 (x
 :
 Bool),
 ∃
 (x
 :
 Bool),
 ∃
 (p
 :
 Option
 Addr),
 ∃
 (n
 :
 Nat),
 ∃
 (c
 :
 Nat),
 ∃
 (x
 :
 ByteArray),
 True ∧
 ∃
 (f
 :
 Nat →
 Int),
 ∃
 (f
 :
 Nat →
 Int),
 ∃
 (x
 :
 ByteArray),
 ∃
 (x
 :
 Int),
 ∃
 (x
 :
 Bool),
 ∃
 (x
 :
 Bool),
 ∃
 (p
 :
 Option
 Addr),
 ∃
 (n
 :
 Nat),
 ∃
 (c
 :
 Nat),
 ∃
 (x
 :
 ByteArray),
 True ∧
 S
 w' ∧
 S
 w' ∧
 KeptL
 [n_2,
 n_1]
 W
 w' ∧
 R
 (Ending.returned
 (Value.bool
 false))
 w'))
 (S w' ∧
 S w' ∧
 S w' ∧
 ∃ (f : Nat → Int),
 ∃ (f :
 Nat → Int),
 ∃ (x :
 ByteArray),
 ∃ (x : Int),
 ∃ (x : Bool),
 ∃ (x : Bool),
 ∃ (p :
 Option
 Addr),
 ∃ (n :
 Nat),
 ∃ (c :
 Nat),
 ∃ (x :
 ByteArray),
 True ∧
 ∃ (f :
 Nat →
 Int),
 ∃ (f :
 Nat →
 Int),
 ∃ (x
 :
 ByteArray),
 ∃ (x
 :
 Int),
 ∃
 (x
 :
 Bool),
 ∃
 (x
 :
 Bool),
 ∃
 (p
 :
 Option
 Addr),
 ∃
 (n
 :
 Nat),
 ∃
 (c
 :
 Nat),
 ∃
 (x
 :
 ByteArray),
 True ∧
 S
 w' ∧
 S
 w' ∧
 ∃
 (f
 :
 Nat →
 Int),
 ∃
 (f
 :
 Nat →
 Int),
 ∃
 (x
 :
 ByteArray),
 ∃
 (x
 :
 Int),
 ∃
 (x
 :
 Bool),
 ∃
 (x
 :
 Bool),
 ∃
 (p
 :
 Option
 Addr),
 ∃
 (n
 :
 Nat),
 ∃
 (c
 :
 Nat),
 ∃
 (x
 :
 ByteArray),
 True ∧
 ∃
 (f
 :
 Nat →
 Int),
 ∃
 (f
 :
 Nat →
 Int),
 ∃
 (x
 :
 ByteArray),
 ∃
 (x
 :
 Int),
 ∃
 (x
 :
 Bool),
 ∃
 (x
 :
 Bool),
 ∃
 (p
 :
 Option
 Addr),
 ∃
 (n
 :
 Nat),
 ∃
 (c
 :
 Nat),
 ∃
 (x
 :
 ByteArray),
 True ∧
 ∃
 (f
 :
 Nat →
 Int),
 ∃
 (f
 :
 Nat →
 Int),
 ∃
 (x
 :
 ByteArray),
 ∃
 (x
 :
 Int),
 ∃
 (x
 :
 Bool),
 ∃
 (x
 :
 Bool),
 ∃
 (p
 :
 Option
 Addr),
 ∃
 (n
 :
 Nat),
 ∃
 (c
 :
 Nat),
 ∃
 (x
 :
 ByteArray),
 True ∧
 ∃
 (f
 :
 Nat →
 Int),
 ∃
 (f
 :
 Nat →
 Int),
 ∃
 (x
 :
 ByteArray),
 ∃
 (x
 :
 Int),
 ∃
 (x
 :
 Bool),
 ∃
 (x
 :
 Bool),
 ∃
 (p
 :
 Option
 Addr),
 ∃
 (n
 :
 Nat),
 ∃
 (c
 :
 Nat),
 ∃
 (x
 :
 ByteArray),
 True ∧
 S
 w' ∧
 S
 w' ∧
 KeptL
 [n_2,
 n_1]
 W
 w' ∧
 R
 (Ending.returned
 (Value.bool
 false))
 w')) ∧
 ∀ (n_7 : Nat) (w1_1 : World),
 NewB w1
 (Obj.cells
 #[Value.int IntKind.u8 0, Value.int IntKind.u8 0,
 Value.int IntKind.u8 0, Value.int IntKind.u8 0,
 Value.int IntKind.u8 0, Value.int IntKind.u8 0,
 Value.int IntKind.u8 0, Value.int IntKind.u8 0,
 Value.int IntKind.u8 0, Value.int IntKind.u8 0,
 Value.int IntKind.u8 0, Value.int IntKind.u8 0,
 Value.int IntKind.u8 0, Value.int IntKind.u8 0,
 Value.int IntKind.u8 0, Value.int IntKind.u8 0,
 Value.int IntKind.u8 0, Value.int IntKind.u8 0,
 Value.int IntKind.u8 0, Value.int IntKind.u8 0,
 Value.int IntKind.u8 0, Value.int IntKind.u8 0,
 Value.int IntKind.u8 0, Value.int IntKind.u8 0,
 Value.int IntKind.u8 0, Value.int IntKind.u8 0,
 Value.int IntKind.u8 0, Value.int IntKind.u8 0,
 Value.int IntKind.u8 0, Value.int IntKind.u8 0,
 Value.int IntKind.u8 0, Value.int IntKind.u8 0,
 Value.int IntKind.u8 0, Value.int IntKind.u8 0,
 Value.int IntKind.u8 0, Value.int IntKind.u8 0,
 Value.int IntKind.u8 0, Value.int IntKind.u8 0,
 Value.int IntKind.u8 0, Value.int IntKind.u8 0,
 Value.int IntKind.u8 0, Value.int IntKind.u8 0,
 Value.int IntKind.u8 0, Value.int IntKind.u8 0,
 Value.int IntKind.u8 0, Value.int IntKind.u8 0,
 Value.int IntKind.u8 0, Value.int IntKind.u8 0,
 Value.string (ByteArray.mk #[]), Value.int IntKind.i64 0,
 Value.bool false, Value.bool false, Value.slice none 0 0,
 Value.string (ByteArray.mk #[])]
 56)
 n_7 w1_1 →
 S w1_1 ∧
 CallsS Tryz.prog 23
 #[Value.agg
 (arrI IntKind.u8 f_2 32 0 ++ (arrI IntKind.u8 f_3 16 0 ++ [Value.string x_5, Value.int IntKind.i64 x_6, Value.bool x_7,
 Value.bool x_8, Value.slice p_2 n_4 c_2, Value.string x_9])).toArray]
 w1_1 fun (e : Ending) (w' : World) =>
 ∃ (f_5 : Nat → Int),
 ∃ (f_6 : Nat → Int),
 ∃ (x_14 : ByteArray),
 ∃ (x_15 : Int),
 ∃ (x_16 : Bool),
 ∃ (x_17 : Bool),
 ∃ (p_4 : Option Addr),
 ∃ (n_8 : Nat),
 ∃ (c_4 : Nat),
 ∃ (x_18 : ByteArray),
 e =
 Ending.returned
 (Value.agg
 (arrI IntKind.u8 f_5 32 0 ++ (arrI IntKind.u8 f_6 16 0 ++ [Value.string x_14,
 Value.int IntKind.i64 x_15, Value.bool x_16,
 Value.bool x_17, Value.slice p_4 n_8 c_4,
 Value.string x_18])).toArray) ∧
 WrL w' n_6 0 54 ∧
 ∀ (w1 : World),
 PutB w' n_6 0
 (arrI IntKind.u8 f 32 0 ++ (arrI IntKind.u8 f_4 16 0 ++ [Value.string x,
 Value.int IntKind.i64 x_10, Value.bool x_11,
 Value.bool x_12, Value.slice p_3 n_5 c_3,
 Value.string x_13]))
 w1 →
 WrL w1 n_7 0 54 ∧
 ∀ (w1_2 : World),
 PutB w1 n_7 0
 (arrI IntKind.u8 f_5 32 0 ++ (arrI IntKind.u8 f_6 16 0 ++ [Value.string x_14,
 Value.int IntKind.i64 x_15, Value.bool x_16,
 Value.bool x_17, Value.slice p_4 n_8 c_4,
 Value.string x_18]))
 w1_2 →
 KeptL [n_2, n_1] W w1_2 ∧
 ∀ (W : World),
 Loc w.heap.size
 [Blk.mk n_2 50
 (arrI IntKind.u8 id2 32 0 ++ (arrI IntKind.u8 au2 16 0 ++ [Value.string g2, Value.int IntKind.i64 v2,
 Value.bool rm2, Value.bool md2,
 Value.slice p2 n2 c2, Value.string t2]))
 0,
 Blk.mk n_1 50
 (arrI IntKind.u8 id 32 0 ++ (arrI IntKind.u8 au 16 0 ++ [Value.string g,
 Value.int IntKind.i64 v, Value.bool rm,
 Value.bool md, Value.slice p n c,
 Value.string t]))
 0]
 w1_2 W →
 ∃ (S : World → Prop),
 S W ∧
 CallsS Tryz.prog 15 #[] W
 fun (e : Ending) (w' : World) =>
 ∃ (x : Bool),
 e = Ending.returned (Value.bool x) ∧
 S w' ∧
 ∃ (f : Nat → Int),
 ∃ (f_7 : Nat → Int),
 ∃ (x_19 : ByteArray),
 ∃ (x_20 : Int),
 ∃ (x_21 : Bool),
 ∃ (x_22 : Bool),
 ∃ (p : Option Addr),
 ∃ (n : Nat),
 ∃ (c : Nat),
 ∃ (x_23 : ByteArray),
 gimp x
 (∀ (w' : World),
 S w' →
 AtL w' n_6 0
 (arrI IntKind.u8 f 32 0 ++ (arrI IntKind.u8 f_7 16 0 ++ [Value.string x_19,
 Value.int IntKind.i64 x_20,
 Value.bool x_21,
 Value.bool x_22,
 Value.slice p n c,
 Value.string x_23]))) ∧
 ∃ (f_8 : Nat → Int),
 ∃ (f_9 : Nat → Int),
 ∃ (x_24 : ByteArray),
 ∃ (x_25 : Int),
 ∃ (x_26 : Bool),
 ∃ (x_27 : Bool),
 ∃ (p_5 : Option Addr),
 ∃ (n_9 : Nat),
 ∃ (c_5 : Nat),
 ∃ (x_28 : ByteArray),
 gimp x
 (∀ (w' : World),
 S w' →
 AtL w' n_6 0
 (arrI IntKind.u8 f_8 32 0 ++ (arrI IntKind.u8 f_9 16 0 ++ [Value.string
 x_24,
 Value.int
 IntKind.i64
 x_25,
 Value.bool x_26,
 Value.bool x_27,
 Value.slice p_5
 n_9 c_5,
 Value.string
 x_28]))) ∧
 bsp x
 (CallsS Tryz.prog 24
 #[Value.agg
 (arrI IntKind.u8 f 32 0 ++ (arrI IntKind.u8 f_7 16 0 ++ [Value.string
 x_19,
 Value.int
 IntKind.i64
 x_20,
 Value.bool x_21,
 Value.bool x_22,
 Value.slice p n
 c,
 Value.string
 x_23])).toArray]
 w'
 fun (e : Ending)
 (w' : World) =>
 ∃ (x : Int),
 e =
 Ending.returned
 (Value.int
 IntKind.i64
 x) ∧
 S w' ∧
 CallsS Tryz.prog
 26
 #[Value.agg
 (arrI IntKind.u8 f_8 32 0 ++ (arrI IntKind.u8 f_9 16 0 ++ [Value.string
 x_24,
 Value.int
 IntKind.i64
 x_25,
 Value.bool
 x_26,
 Value.bool
 x_27,
 Value.slice
 p_5 n_9 c_5,
 Value.string
 x_28])).toArray]
 w'
 fun (e : Ending)
 (w' : World) =>
 ∃ (f :
 Nat → Int),
 ∃ (f_10 :
 Nat → Int),
 ∃ (x_29 :
 ByteArray),
 ∃ (x_30 :
 Int),
 ∃ (x_31 :
 Bool),
 ∃ (x_32 :
 Bool),
 ∃ (p :
 Option
 Addr),
 ∃ (n :
 Nat),
 ∃ (c :
 Nat),
 ∃ (x_33
 :
 ByteArray),
 e =
 Ending.returned
 (Value.agg
 (arrI IntKind.u8 f 32 0 ++ (arrI IntKind.u8 f_10 16 0 ++ [Value.string
 x_29,
 Value.int
 IntKind.i64
 x_30,
 Value.bool
 x_31,
 Value.bool
 x_32,
 Value.slice
 p
 n
 c,
 Value.string
 x_33])).toArray) ∧
 S
 w' ∧
 CallsS
 Tryz.prog
 25
 #[Value.agg
 (arrI IntKind.u8 f 32 0 ++ (arrI IntKind.u8 f_10 16 0 ++ [Value.string
 x_29,
 Value.int
 IntKind.i64
 x_30,
 Value.bool
 x_31,
 Value.bool
 x_32,
 Value.slice
 p
 n
 c,
 Value.string
 x_33])).toArray]
 w'
 fun
 (e :
 Ending)
 (w' :
 World) =>
 ∃
 (x_34
 :
 Int),
 e =
 Ending.returned
 (Value.int
 IntKind.i64
 x_34) ∧
 S
 w' ∧
 ∃
 (f
 :
 Nat →
 Int),
 ∃
 (f_11
 :
 Nat →
 Int),
 ∃
 (x_35
 :
 ByteArray),
 ∃
 (x_36
 :
 Int),
 ∃
 (x_37
 :
 Bool),
 ∃
 (x_38
 :
 Bool),
 ∃
 (p
 :
 Option
 Addr),
 ∃
 (n
 :
 Nat),
 ∃
 (c
 :
 Nat),
 ∃
 (x_39
 :
 ByteArray),
 gimp
 (true &&
 x ==
 x_34)
 (∀
 (w' :
 World),
 S
 w' →
 AtL
 w'
 n_6
 0
 (arrI IntKind.u8 f 32 0 ++ (arrI IntKind.u8 f_11 16 0 ++ [Value.string
 x_35,
 Value.int
 IntKind.i64
 x_36,
 Value.bool
 x_37,
 Value.bool
 x_38,
 Value.slice
 p
 n
 c,
 Value.string
 x_39]))) ∧
 ∃
 (f_12
 :
 Nat →
 Int),
 ∃
 (f_13
 :
 Nat →
 Int),
 ∃
 (x_40
 :
 ByteArray),
 ∃
 (x_41
 :
 Int),
 ∃
 (x_42
 :
 Bool),
 ∃
 (x_43
 :
 Bool),
 ∃
 (p_6
 :
 Option
 Addr),
 ∃
 (n_10
 :
 Nat),
 ∃
 (c_6
 :
 Nat),
 ∃
 (x_44
 :
 ByteArray),
 gimp
 (true &&
 x ==
 x_34)
 (∀
 (w' :
 World),
 S
 w' →
 AtL
 w'
 n_1
 0
 (arrI IntKind.u8 f_12 32 0 ++ (arrI IntKind.u8 f_13 16 0 ++ [Value.string
 x_40,
 Value.int
 IntKind.i64
 x_41,
 Value.bool
 x_42,
 Value.bool
 x_43,
 Value.slice
 p_6
 n_10
 c_6,
 Value.string
 x_44]))) ∧
 bsp
 (true &&
 x ==
 x_34)
 (CallsS
 Tryz.prog
 23
 #[Value.agg
 (arrI IntKind.u8 f_12 32 0 ++ (arrI IntKind.u8 f_13 16 0 ++ [Value.string
 x_40,
 Value.int
 IntKind.i64
 x_41,
 Value.bool
 x_42,
 Value.bool
 x_43,
 Value.slice
 p_6
 n_10
 c_6,
 Value.string
 x_44])).toArray]
 w'
 fun
 (e :
 Ending)
 (w' :
 World) =>
 ∃
 (f_14
 :
 Nat →
 Int),
 ∃
 (f_15
 :
 Nat →
 Int),
 ∃
 (x
 :
 ByteArray),
 ∃
 (x_45
 :
 Int),
 ∃
 (x_46
 :
 Bool),
 ∃
 (x_47
 :
 Bool),
 ∃
 (p_7
 :
 Option
 Addr),
 ∃
 (n_11
 :
 Nat),
 ∃
 (c_7
 :
 Nat),
 ∃
 (x_48
 :
 ByteArray),
 e =
 Ending.returned
 (Value.agg
 (arrI IntKind.u8 f_14 32 0 ++ (arrI IntKind.u8 f_15 16 0 ++ [Value.string
 x,
 Value.int
 IntKind.i64
 x_45,
 Value.bool
 x_46,
 Value.bool
 x_47,
 Value.slice
 p_7
 n_11
 c_7,
 Value.string
 x_48])).toArray) ∧
 S
 w' ∧
 CallsS
 Tryz.prog
 27
 #[Value.agg
 (arrI IntKind.u8 f 32 0 ++ (arrI IntKind.u8 f_11 16 0 ++ [Value.string
 x_35,
 Value.int
 IntKind.i64
 x_36,
 Value.bool
 x_37,
 Value.bool
 x_38,
 Value.slice
 p
 n
 c,
 Value.string
 x_39])).toArray,
 Value.agg
 (arrI IntKind.u8 f_14 32 0 ++ (arrI IntKind.u8 f_15 16 0 ++ [Value.string
 x,
 Value.int
 IntKind.i64
 x_45,
 Value.bool
 x_46,
 Value.bool
 x_47,
 Value.slice
 p_7
 n_11
 c_7,
 Value.string
 x_48])).toArray]
 w'
 fun
 (e :
 Ending)
 (w' :
 World) =>
 ∃
 (x
 :
 Bool),
 e =
 Ending.returned
 (Value.bool
 x) ∧
 S
 w' ∧
 ∃
 (f
 :
 Nat →
 Int),
 ∃
 (f_16
 :
 Nat →
 Int),
 ∃
 (x_49
 :
 ByteArray),
 ∃
 (x_50
 :
 Int),
 ∃
 (x_51
 :
 Bool),
 ∃
 (x_52
 :
 Bool),
 ∃
 (p
 :
 Option
 Addr),
 ∃
 (n
 :
 Nat),
 ∃
 (c
 :
 Nat),
 ∃
 (x_53
 :
 ByteArray),
 gimp
 (true &&
 x)
 (∀
 (w' :
 World),
 S
 w' →
 AtL
 w'
 n_6
 0
 (arrI IntKind.u8 f 32 0 ++ (arrI IntKind.u8 f_16 16 0 ++ [Value.string
 x_49,
 Value.int
 IntKind.i64
 x_50,
 Value.bool
 x_51,
 Value.bool
 x_52,
 Value.slice
 p
 n
 c,
 Value.string
 x_53]))) ∧
 ∃
 (f_17
 :
 Nat →
 Int),
 ∃
 (f_18
 :
 Nat →
 Int),
 ∃
 (x_54
 :
 ByteArray),
 ∃
 (x_55
 :
 Int),
 ∃
 (x_56
 :
 Bool),
 ∃
 (x_57
 :
 Bool),
 ∃
 (p_8
 :
 Option
 Addr),
 ∃
 (n_12
 :
 Nat),
 ∃
 (c_8
 :
 Nat),
 ∃
 (x_58
 :
 ByteArray),
 gimp
 (true &&
 x)
 (∀
 (w' :
 World),
 S
 w' →
 AtL
 w'
 n_7
 0
 (arrI IntKind.u8 f_17 32 0 ++ (arrI IntKind.u8 f_18 16 0 ++ [Value.string
 x_54,
 Value.int
 IntKind.i64
 x_55,
 Value.bool
 x_56,
 Value.bool
 x_57,
 Value.slice
 p_8
 n_12
 c_8,
 Value.string
 x_58]))) ∧
 ∃
 (f_19
 :
 Nat →
 Int),
 ∃
 (f_20
 :
 Nat →
 Int),
 ∃
 (x_59
 :
 ByteArray),
 ∃
 (x_60
 :
 Int),
 ∃
 (x_61
 :
 Bool),
 ∃
 (x_62
 :
 Bool),
 ∃
 (p_9
 :
 Option
 Addr),
 ∃
 (n_13
 :
 Nat),
 ∃
 (c_9
 :
 Nat),
 ∃
 (x_63
 :
 ByteArray),
 gimp
 (true &&
 x)
 (∀
 (w' :
 World),
 S
 w' →
 AtL
 w'
 n_6
 0
 (arrI IntKind.u8 f_19 32 0 ++ (arrI IntKind.u8 f_20 16 0 ++ [Value.string
 x_59,
 Value.int
 IntKind.i64
 x_60,
 Value.bool
 x_61,
 Value.bool
 x_62,
 Value.slice
 p_9
 n_13
 c_9,
 Value.string
 x_63]))) ∧
 ∃
 (f_21
 :
 Nat →
 Int),
 ∃
 (f_22
 :
 Nat →
 Int),
 ∃
 (x_64
 :
 ByteArray),
 ∃
 (x_65
 :
 Int),
 ∃
 (x_66
 :
 Bool),
 ∃
 (x_67
 :
 Bool),
 ∃
 (p_10
 :
 Option
 Addr),
 ∃
 (n_14
 :
 Nat),
 ∃
 (c_10
 :
 Nat),
 ∃
 (x_68
 :
 ByteArray),
 gimp
 (true &&
 x)
 (∀
 (w' :
 World),
 S
 w' →
 AtL
 w'
 n_7
 0
 (arrI IntKind.u8 f_21 32 0 ++ (arrI IntKind.u8 f_22 16 0 ++ [Value.string
 x_64,
 Value.int
 IntKind.i64
 x_65,
 Value.bool
 x_66,
 Value.bool
 x_67,
 Value.slice
 p_10
 n_14
 c_10,
 Value.string
 x_68]))) ∧
 bsp
 (true &&
 x)
 (CallsS
 Tryz.prog
 27
 #[Value.agg
 (arrI IntKind.u8 f 32 0 ++ (arrI IntKind.u8 f_16 16 0 ++ [Value.string
 x_49,
 Value.int
 IntKind.i64
 x_50,
 Value.bool
 x_51,
 Value.bool
 x_52,
 Value.slice
 p
 n
 c,
 Value.string
 x_53])).toArray,
 Value.agg
 (arrI IntKind.u8 f_17 32 0 ++ (arrI IntKind.u8 f_18 16 0 ++ [Value.string
 x_54,
 Value.int
 IntKind.i64
 x_55,
 Value.bool
 x_56,
 Value.bool
 x_57,
 Value.slice
 p_8
 n_12
 c_8,
 Value.string
 x_58])).toArray]
 w'
 fun
 (e :
 Ending)
 (w' :
 World) =>
 ∃
 (x
 :
 Bool),
 e =
 Ending.returned
 (Value.bool
 x) ∧
 S
 w' ∧
 CallsS
 Tryz.prog
 26
 #[Value.agg
 (arrI IntKind.u8 f_19 32 0 ++ (arrI IntKind.u8 f_20 16 0 ++ [Value.string
 x_59,
 Value.int
 IntKind.i64
 x_60,
 Value.bool
 x_61,
 Value.bool
 x_62,
 Value.slice
 p_9
 n_13
 c_9,
 Value.string
 x_63])).toArray]
 w'
 fun
 (e :
 Ending)
 (w' :
 World) =>
 ∃
 (f
 :
 Nat →
 Int),
 ∃
 (f_23
 :
 Nat →
 Int),
 ∃
 (x_69
 :
 ByteArray),
 ∃
 (x_70
 :
 Int),
 ∃
 (x_71
 :
 Bool),
 ∃
 (x_72
 :
 Bool),
 ∃
 (p
 :
 Option
 Addr),
 ∃
 (n
 :
 Nat),
 ∃
 (c
 :
 Nat),
 ∃
 (x_73
 :
 ByteArray),
 e =
 Ending.returned
 (Value.agg
 (arrI IntKind.u8 f 32 0 ++ (arrI IntKind.u8 f_23 16 0 ++ [Value.string
 x_69,
 Value.int
 IntKind.i64
 x_70,
 Value.bool
 x_71,
 Value.bool
 x_72,
 Value.slice
 p
 n
 c,
 Value.string
 x_73])).toArray) ∧
 S
 w' ∧
 CallsS
 Tryz.prog
 26
 #[Value.agg
 (arrI IntKind.u8 f_21 32 0 ++ (arrI IntKind.u8 f_22 16 0 ++ [Value.string
 x_64,
 Value.int
 IntKind.i64
 x_65,
 Value.bool
 x_66,
 Value.bool
 x_67,
 Value.slice
 p_10
 n_14
 c_10,
 Value.string
 x_68])).toArray]
 w'
 fun
 (e :
 Ending)
 (w' :
 World) =>
 ∃
 (f_24
 :
 Nat →
 Int),
 ∃
 (f_25
 :
 Nat →
 Int),
 ∃
 (x_74
 :
 ByteArray),
 ∃
 (x_75
 :
 Int),
 ∃
 (x_76
 :
 Bool),
 ∃
 (x_77
 :
 Bool),
 ∃
 (p_11
 :
 Option
 Addr),
 ∃
 (n_15
 :
 Nat),
 ∃
 (c_11
 :
 Nat),
 ∃
 (x_78
 :
 ByteArray),
 e =
 Ending.returned
 (Value.agg
 (arrI IntKind.u8 f_24 32 0 ++ (arrI IntKind.u8 f_25 16 0 ++ [Value.string
 x_74,
 Value.int
 IntKind.i64
 x_75,
 Value.bool
 x_76,
 Value.bool
 x_77,
 Value.slice
 p_11
 n_15
 c_11,
 Value.string
 x_78])).toArray) ∧
 CallsS
 Tryz.prog
 28
 #[Value.agg
 (arrI IntKind.u8 f 32 0 ++ (arrI IntKind.u8 f_23 16 0 ++ [Value.string
 x_69,
 Value.int
 IntKind.i64
 x_70,
 Value.bool
 x_71,
 Value.bool
 x_72,
 Value.slice
 p
 n
 c,
 Value.string
 x_73])).toArray,
 Value.agg
 (arrI IntKind.u8 f_24 32 0 ++ (arrI IntKind.u8 f_25 16 0 ++ [Value.string
 x_74,
 Value.int
 IntKind.i64
 x_75,
 Value.bool
 x_76,
 Value.bool
 x_77,
 Value.slice
 p_11
 n_15
 c_11,
 Value.string
 x_78])).toArray]
 w'
 fun
 (e :
 Ending)
 (w' :
 World) =>
 ∃
 (x_79
 :
 Bool),
 e =
 Ending.returned
 (Value.bool
 x_79) ∧
 KeptL
 [n_2,
 n_1]
 W
 w' ∧
 R
 (Ending.returned
 (Value.bool
 (true &&
 x ==
 x_79)))
 w')
 (S
 w' ∧
 S
 w' ∧
 KeptL
 [n_2,
 n_1]
 W
 w' ∧
 R
 (Ending.returned
 (Value.bool
 false))
 w'))
 (S
 w' ∧
 S
 w' ∧
 ∃
 (f
 :
 Nat →
 Int),
 ∃
 (f
 :
 Nat →
 Int),
 ∃
 (x
 :
 ByteArray),
 ∃
 (x
 :
 Int),
 ∃
 (x
 :
 Bool),
 ∃
 (x
 :
 Bool),
 ∃
 (p
 :
 Option
 Addr),
 ∃
 (n
 :
 Nat),
 ∃
 (c
 :
 Nat),
 ∃
 (x
 :
 ByteArray),
 True ∧
 ∃
 (f
 :
 Nat →
 Int),
 ∃
 (f
 :
 Nat →
 Int),
 ∃
 (x
 :
 ByteArray),
 ∃
 (x
 :
 Int),
 ∃
 (x
 :
 Bool),
 ∃
 (x
 :
 Bool),
 ∃
 (p
 :
 Option
 Addr),
 ∃
 (n
 :
 Nat),
 ∃
 (c
 :
 Nat),
 ∃
 (x
 :
 ByteArray),
 True ∧
 ∃
 (f
 :
 Nat →
 Int),
 ∃
 (f
 :
 Nat →
 Int),
 ∃
 (x
 :
 ByteArray),
 ∃
 (x
 :
 Int),
 ∃
 (x
 :
 Bool),
 ∃
 (x
 :
 Bool),
 ∃
 (p
 :
 Option
 Addr),
 ∃
 (n
 :
 Nat),
 ∃
 (c
 :
 Nat),
 ∃
 (x
 :
 ByteArray),
 True ∧
 ∃
 (f
 :
 Nat →
 Int),
 ∃
 (f
 :
 Nat →
 Int),
 ∃
 (x
 :
 ByteArray),
 ∃
 (x
 :
 Int),
 ∃
 (x
 :
 Bool),
 ∃
 (x
 :
 Bool),
 ∃
 (p
 :
 Option
 Addr),
 ∃
 (n
 :
 Nat),
 ∃
 (c
 :
 Nat),
 ∃
 (x
 :
 ByteArray),
 True ∧
 S
 w' ∧
 S
 w' ∧
 KeptL
 [n_2,
 n_1]
 W
 w' ∧
 R
 (Ending.returned
 (Value.bool
 false))
 w'))
 (S w' ∧
 S w' ∧
 S w' ∧
 ∃ (f : Nat → Int),
 ∃ (f :
 Nat → Int),
 ∃ (x :
 ByteArray),
 ∃ (x : Int),
 ∃ (x : Bool),
 ∃ (x : Bool),
 ∃ (p :
 Option
 Addr),
 ∃ (n :
 Nat),
 ∃ (c :
 Nat),
 ∃ (x :
 ByteArray),
 True ∧
 ∃ (f :
 Nat →
 Int),
 ∃ (f :
 Nat →
 Int),
 ∃ (x
 :
 ByteArray),
 ∃ (x
 :
 Int),
 ∃
 (x
 :
 Bool),
 ∃
 (x
 :
 Bool),
 ∃
 (p
 :
 Option
 Addr),
 ∃
 (n
 :
 Nat),
 ∃
 (c
 :
 Nat),
 ∃
 (x
 :
 ByteArray),
 True ∧
 S
 w' ∧
 S
 w' ∧
 ∃
 (f
 :
 Nat →
 Int),
 ∃
 (f
 :
 Nat →
 Int),
 ∃
 (x
 :
 ByteArray),
 ∃
 (x
 :
 Int),
 ∃
 (x
 :
 Bool),
 ∃
 (x
 :
 Bool),
 ∃
 (p
 :
 Option
 Addr),
 ∃
 (n
 :
 Nat),
 ∃
 (c
 :
 Nat),
 ∃
 (x
 :
 ByteArray),
 True ∧
 ∃
 (f
 :
 Nat →
 Int),
 ∃
 (f
 :
 Nat →
 Int),
 ∃
 (x
 :
 ByteArray),
 ∃
 (x
 :
 Int),
 ∃
 (x
 :
 Bool),
 ∃
 (x
 :
 Bool),
 ∃
 (p
 :
 Option
 Addr),
 ∃
 (n
 :
 Nat),
 ∃
 (c
 :
 Nat),
 ∃
 (x
 :
 ByteArray),
 True ∧
 ∃
 (f
 :
 Nat →
 Int),
 ∃
 (f
 :
 Nat →
 Int),
 ∃
 (x
 :
 ByteArray),
 ∃
 (x
 :
 Int),
 ∃
 (x
 :
 Bool),
 ∃
 (x
 :
 Bool),
 ∃
 (p
 :
 Option
 Addr),
 ∃
 (n
 :
 Nat),
 ∃
 (c
 :
 Nat),
 ∃
 (x
 :
 ByteArray),
 True ∧
 ∃
 (f
 :
 Nat →
 Int),
 ∃
 (f
 :
 Nat →
 Int),
 ∃
 (x
 :
 ByteArray),
 ∃
 (x
 :
 Int),
 ∃
 (x
 :
 Bool),
 ∃
 (x
 :
 Bool),
 ∃
 (p
 :
 Option
 Addr),
 ∃
 (n
 :
 Nat),
 ∃
 (c
 :
 Nat),
 ∃
 (x
 :
 ByteArray),
 True ∧
 S
 w' ∧
 S
 w' ∧
 KeptL
 [n_2,
 n_1]
 W
 w' ∧
 R
 (Ending.returned
 (Value.bool
 false))
 w')) ∧
 ∀ (n_6 : Nat) (w1 : World),
 NewB w'
 (Obj.cells
 #[Value.int IntKind.u8 0, Value.int IntKind.u8 0, Value.int IntKind.u8 0,
 Value.int IntKind.u8 0, Value.int IntKind.u8 0, Value.int IntKind.u8 0,
 Value.int IntKind.u8 0, Value.int IntKind.u8 0, Value.int IntKind.u8 0,
 Value.int IntKind.u8 0, Value.int IntKind.u8 0, Value.int IntKind.u8 0,
 Value.int IntKind.u8 0, Value.int IntKind.u8 0, Value.int IntKind.u8 0,
 Value.int IntKind.u8 0, Value.int IntKind.u8 0, Value.int IntKind.u8 0,
 Value.int IntKind.u8 0, Value.int IntKind.u8 0, Value.int IntKind.u8 0,
 Value.int IntKind.u8 0, Value.int IntKind.u8 0, Value.int IntKind.u8 0,
 Value.int IntKind.u8 0, Value.int IntKind.u8 0, Value.int IntKind.u8 0,
 Value.int IntKind.u8 0, Value.int IntKind.u8 0, Value.int IntKind.u8 0,
 Value.int IntKind.u8 0, Value.int IntKind.u8 0, Value.int IntKind.u8 0,
 Value.int IntKind.u8 0, Value.int IntKind.u8 0, Value.int IntKind.u8 0,
 Value.int IntKind.u8 0, Value.int IntKind.u8 0, Value.int IntKind.u8 0,
 Value.int IntKind.u8 0, Value.int IntKind.u8 0, Value.int IntKind.u8 0,
 Value.int IntKind.u8 0, Value.int IntKind.u8 0, Value.int IntKind.u8 0,
 Value.int IntKind.u8 0, Value.int IntKind.u8 0, Value.int IntKind.u8 0,
 Value.string (ByteArray.mk #[]), Value.int IntKind.i64 0,
 Value.bool false, Value.bool false, Value.slice none 0 0,
 Value.string (ByteArray.mk #[])]
 56)
 n_6 w1 →
 S w1 ∧
 (CallsS Tryz.prog 23
 #[Value.agg
 (arrI IntKind.u8 f_2 32 0 ++ (arrI IntKind.u8 f_3 16 0 ++ [Value.string x_5, Value.int IntKind.i64 x_6, Value.bool x_7,
 Value.bool x_8, Value.slice p_2 n_4 c_2, Value.string x_9])).toArray]
 w1 fun (e : Ending) (w' : World) =>
 ∃ (f_5 : Nat → Int),
 ∃ (f_6 : Nat → Int),
 ∃ (x_14 : ByteArray),
 ∃ (x_15 : Int),
 ∃ (x_16 : Bool),
 ∃ (x_17 : Bool),
 ∃ (p_4 : Option Addr),
 ∃ (n_7 : Nat),
 ∃ (c_4 : Nat),
 ∃ (x_18 : ByteArray),
 e =
 Ending.returned
 (Value.agg
 (arrI IntKind.u8 f_5 32 0 ++ (arrI IntKind.u8 f_6 16 0 ++ [Value.string x_14,
 Value.int IntKind.i64 x_15, Value.bool x_16,
 Value.bool x_17, Value.slice p_4 n_7 c_4,
 Value.string x_18])).toArray) ∧
 ∀ (n_8 : Nat) (w1 : World),
 NewB w'
 (Obj.cells
 #[Value.int IntKind.u8 0, Value.int IntKind.u8 0,
 Value.int IntKind.u8 0, Value.int IntKind.u8 0,
 Value.int IntKind.u8 0, Value.int IntKind.u8 0,
 Value.int IntKind.u8 0, Value.int IntKind.u8 0,
 Value.int IntKind.u8 0, Value.int IntKind.u8 0,
 Value.int IntKind.u8 0, Value.int IntKind.u8 0,
 Value.int IntKind.u8 0, Value.int IntKind.u8 0,
 Value.int IntKind.u8 0, Value.int IntKind.u8 0,
 Value.int IntKind.u8 0, Value.int IntKind.u8 0,
 Value.int IntKind.u8 0, Value.int IntKind.u8 0,
 Value.int IntKind.u8 0, Value.int IntKind.u8 0,
 Value.int IntKind.u8 0, Value.int IntKind.u8 0,
 Value.int IntKind.u8 0, Value.int IntKind.u8 0,
 Value.int IntKind.u8 0, Value.int IntKind.u8 0,
 Value.int IntKind.u8 0, Value.int IntKind.u8 0,
 Value.int IntKind.u8 0, Value.int IntKind.u8 0,
 Value.int IntKind.u8 0, Value.int IntKind.u8 0,
 Value.int IntKind.u8 0, Value.int IntKind.u8 0,
 Value.int IntKind.u8 0, Value.int IntKind.u8 0,
 Value.int IntKind.u8 0, Value.int IntKind.u8 0,
 Value.int IntKind.u8 0, Value.int IntKind.u8 0,
 Value.int IntKind.u8 0, Value.int IntKind.u8 0,
 Value.int IntKind.u8 0, Value.int IntKind.u8 0,
 Value.int IntKind.u8 0, Value.int IntKind.u8 0,
 Value.string (ByteArray.mk #[]), Value.int IntKind.i64 0,
 Value.bool false, Value.bool false, Value.slice none 0 0,
 Value.string (ByteArray.mk #[])]
 56)
 n_8 w1 →
 S w1 ∧
 WrL w1 n_8 0 54 ∧
 ∀ (w1_1 : World),
 PutB w1 n_8 0
 (arrI IntKind.u8 f 32 0 ++ (arrI IntKind.u8 f_4 16 0 ++ [Value.string x,
 Value.int IntKind.i64 x_10, Value.bool x_11,
 Value.bool x_12, Value.slice p_3 n_5 c_3,
 Value.string x_13]))
 w1_1 →
 WrL w1_1 n_6 0 54 ∧
 ∀ (w1 : World),
 PutB w1_1 n_6 0
 (arrI IntKind.u8 f_5 32 0 ++ (arrI IntKind.u8 f_6 16 0 ++ [Value.string x_14,
 Value.int IntKind.i64 x_15, Value.bool x_16,
 Value.bool x_17, Value.slice p_4 n_7 c_4,
 Value.string x_18]))
 w1 →
 KeptL [n_2, n_1] W w1 ∧
 ∀ (W : World),
 Loc w.heap.size
 [Blk.mk n_2 50
 (arrI IntKind.u8 id2 32 0 ++ (arrI IntKind.u8 au2 16 0 ++ [Value.string g2, Value.int IntKind.i64 v2,
 Value.bool rm2, Value.bool md2,
 Value.slice p2 n2 c2, Value.string t2]))
 0,
 Blk.mk n_1 50
 (arrI IntKind.u8 id 32 0 ++ (arrI IntKind.u8 au 16 0 ++ [Value.string g,
 Value.int IntKind.i64 v, Value.bool rm,
 Value.bool md, Value.slice p n c,
 Value.string t]))
 0]
 w1 W →
 ∃ (S : World → Prop),
 S W ∧
 CallsS Tryz.prog 15 #[] W
 fun (e : Ending) (w' : World) =>
 ∃ (x : Bool),
 e = Ending.returned (Value.bool x) ∧
 S w' ∧
 ∃ (f : Nat → Int),
 ∃ (f_7 : Nat → Int),
 ∃ (x_19 : ByteArray),
 ∃ (x_20 : Int),
 ∃ (x_21 : Bool),
 ∃ (x_22 : Bool),
 ∃ (p : Option Addr),
 ∃ (n : Nat),
 ∃ (c : Nat),
 ∃ (x_23 : ByteArray),
 gimp x
 (∀ (w' : World),
 S w' →
 AtL w' n_8 0
 (arrI IntKind.u8 f 32 0 ++ (arrI IntKind.u8 f_7 16 0 ++ [Value.string x_19,
 Value.int IntKind.i64 x_20,
 Value.bool x_21,
 Value.bool x_22,
 Value.slice p n c,
 Value.string x_23]))) ∧
 ∃ (f_8 : Nat → Int),
 ∃ (f_9 : Nat → Int),
 ∃ (x_24 : ByteArray),
 ∃ (x_25 : Int),
 ∃ (x_26 : Bool),
 ∃ (x_27 : Bool),
 ∃ (p_5 : Option Addr),
 ∃ (n_9 : Nat),
 ∃ (c_5 : Nat),
 ∃ (x_28 : ByteArray),
 gimp x
 (∀ (w' : World),
 S w' →
 AtL w' n_8 0
 (arrI IntKind.u8 f_8 32 0 ++ (arrI IntKind.u8 f_9 16 0 ++ [Value.string
 x_24,
 Value.int
 IntKind.i64
 x_25,
 Value.bool x_26,
 Value.bool x_27,
 Value.slice p_5
 n_9 c_5,
 Value.string
 x_28]))) ∧
 bsp x
 (CallsS Tryz.prog 24
 #[Value.agg
 (arrI IntKind.u8 f 32 0 ++ (arrI IntKind.u8 f_7 16 0 ++ [Value.string
 x_19,
 Value.int
 IntKind.i64
 x_20,
 Value.bool x_21,
 Value.bool x_22,
 Value.slice p n
 c,
 Value.string
 x_23])).toArray]
 w'
 fun (e : Ending)
 (w' : World) =>
 ∃ (x : Int),
 e =
 Ending.returned
 (Value.int
 IntKind.i64
 x) ∧
 S w' ∧
 CallsS Tryz.prog
 26
 #[Value.agg
 (arrI IntKind.u8 f_8 32 0 ++ (arrI IntKind.u8 f_9 16 0 ++ [Value.string
 x_24,
 Value.int
 IntKind.i64
 x_25,
 Value.bool
 x_26,
 Value.bool
 x_27,
 Value.slice
 p_5 n_9 c_5,
 Value.string
 x_28])).toArray]
 w'
 fun (e : Ending)
 (w' : World) =>
 ∃ (f :
 Nat → Int),
 ∃ (f_10 :
 Nat → Int),
 ∃ (x_29 :
 ByteArray),
 ∃ (x_30 :
 Int),
 ∃ (x_31 :
 Bool),
 ∃ (x_32 :
 Bool),
 ∃ (p :
 Option
 Addr),
 ∃ (n :
 Nat),
 ∃ (c :
 Nat),
 ∃ (x_33
 :
 ByteArray),
 e =
 Ending.returned
 (Value.agg
 (arrI IntKind.u8 f 32 0 ++ (arrI IntKind.u8 f_10 16 0 ++ [Value.string
 x_29,
 Value.int
 IntKind.i64
 x_30,
 Value.bool
 x_31,
 Value.bool
 x_32,
 Value.slice
 p
 n
 c,
 Value.string
 x_33])).toArray) ∧
 S
 w' ∧
 CallsS
 Tryz.prog
 25
 #[Value.agg
 (arrI IntKind.u8 f 32 0 ++ (arrI IntKind.u8 f_10 16 0 ++ [Value.string
 x_29,
 Value.int
 IntKind.i64
 x_30,
 Value.bool
 x_31,
 Value.bool
 x_32,
 Value.slice
 p
 n
 c,
 Value.string
 x_33])).toArray]
 w'
 fun
 (e :
 Ending)
 (w' :
 World) =>
 ∃
 (x_34
 :
 Int),
 e =
 Ending.returned
 (Value.int
 IntKind.i64
 x_34) ∧
 S
 w' ∧
 ∃
 (f
 :
 Nat →
 Int),
 ∃
 (f_11
 :
 Nat →
 Int),
 ∃
 (x_35
 :
 ByteArray),
 ∃
 (x_36
 :
 Int),
 ∃
 (x_37
 :
 Bool),
 ∃
 (x_38
 :
 Bool),
 ∃
 (p
 :
 Option
 Addr),
 ∃
 (n
 :
 Nat),
 ∃
 (c
 :
 Nat),
 ∃
 (x_39
 :
 ByteArray),
 gimp
 (true &&
 x ==
 x_34)
 (∀
 (w' :
 World),
 S
 w' →
 AtL
 w'
 n_8
 0
 (arrI IntKind.u8 f 32 0 ++ (arrI IntKind.u8 f_11 16 0 ++ [Value.string
 x_35,
 Value.int
 IntKind.i64
 x_36,
 Value.bool
 x_37,
 Value.bool
 x_38,
 Value.slice
 p
 n
 c,
 Value.string
 x_39]))) ∧
 ∃
 (f_12
 :
 Nat →
 Int),
 ∃
 (f_13
 :
 Nat →
 Int),
 ∃
 (x_40
 :
 ByteArray),
 ∃
 (x_41
 :
 Int),
 ∃
 (x_42
 :
 Bool),
 ∃
 (x_43
 :
 Bool),
 ∃
 (p_6
 :
 Option
 Addr),
 ∃
 (n_10
 :
 Nat),
 ∃
 (c_6
 :
 Nat),
 ∃
 (x_44
 :
 ByteArray),
 gimp
 (true &&
 x ==
 x_34)
 (∀
 (w' :
 World),
 S
 w' →
 AtL
 w'
 n_1
 0
 (arrI IntKind.u8 f_12 32 0 ++ (arrI IntKind.u8 f_13 16 0 ++ [Value.string
 x_40,
 Value.int
 IntKind.i64
 x_41,
 Value.bool
 x_42,
 Value.bool
 x_43,
 Value.slice
 p_6
 n_10
 c_6,
 Value.string
 x_44]))) ∧
 bsp
 (true &&
 x ==
 x_34)
 (CallsS
 Tryz.prog
 23
 #[Value.agg
 (arrI IntKind.u8 f_12 32 0 ++ (arrI IntKind.u8 f_13 16 0 ++ [Value.string
 x_40,
 Value.int
 IntKind.i64
 x_41,
 Value.bool
 x_42,
 Value.bool
 x_43,
 Value.slice
 p_6
 n_10
 c_6,
 Value.string
 x_44])).toArray]
 w'
 fun
 (e :
 Ending)
 (w' :
 World) =>
 ∃
 (f_14
 :
 Nat →
 Int),
 ∃
 (f_15
 :
 Nat →
 Int),
 ∃
 (x
 :
 ByteArray),
 ∃
 (x_45
 :
 Int),
 ∃
 (x_46
 :
 Bool),
 ∃
 (x_47
 :
 Bool),
 ∃
 (p_7
 :
 Option
 Addr),
 ∃
 (n_11
 :
 Nat),
 ∃
 (c_7
 :
 Nat),
 ∃
 (x_48
 :
 ByteArray),
 e =
 Ending.returned
 (Value.agg
 (arrI IntKind.u8 f_14 32 0 ++ (arrI IntKind.u8 f_15 16 0 ++ [Value.string
 x,
 Value.int
 IntKind.i64
 x_45,
 Value.bool
 x_46,
 Value.bool
 x_47,
 Value.slice
 p_7
 n_11
 c_7,
 Value.string
 x_48])).toArray) ∧
 S
 w' ∧
 CallsS
 Tryz.prog
 27
 #[Value.agg
 (arrI IntKind.u8 f 32 0 ++ (arrI IntKind.u8 f_11 16 0 ++ [Value.string
 x_35,
 Value.int
 IntKind.i64
 x_36,
 Value.bool
 x_37,
 Value.bool
 x_38,
 Value.slice
 p
 n
 c,
 Value.string
 x_39])).toArray,
 Value.agg
 (arrI IntKind.u8 f_14 32 0 ++ (arrI IntKind.u8 f_15 16 0 ++ [Value.string
 x,
 Value.int
 IntKind.i64
 x_45,
 Value.bool
 x_46,
 Value.bool
 x_47,
 Value.slice
 p_7
 n_11
 c_7,
 Value.string
 x_48])).toArray]
 w'
 fun
 (e :
 Ending)
 (w' :
 World) =>
 ∃
 (x
 :
 Bool),
 e =
 Ending.returned
 (Value.bool
 x) ∧
 S
 w' ∧
 ∃
 (f
 :
 Nat →
 Int),
 ∃
 (f_16
 :
 Nat →
 Int),
 ∃
 (x_49
 :
 ByteArray),
 ∃
 (x_50
 :
 Int),
 ∃
 (x_51
 :
 Bool),
 ∃
 (x_52
 :
 Bool),
 ∃
 (p
 :
 Option
 Addr),
 ∃
 (n
 :
 Nat),
 ∃
 (c
 :
 Nat),
 ∃
 (x_53
 :
 ByteArray),
 gimp
 (true &&
 x)
 (∀
 (w' :
 World),
 S
 w' →
 AtL
 w'
 n_8
 0
 (arrI IntKind.u8 f 32 0 ++ (arrI IntKind.u8 f_16 16 0 ++ [Value.string
 x_49,
 Value.int
 IntKind.i64
 x_50,
 Value.bool
 x_51,
 Value.bool
 x_52,
 Value.slice
 p
 n
 c,
 Value.string
 x_53]))) ∧
 ∃
 (f_17
 :
 Nat →
 Int),
 ∃
 (f_18
 :
 Nat →
 Int),
 ∃
 (x_54
 :
 ByteArray),
 ∃
 (x_55
 :
 Int),
 ∃
 (x_56
 :
 Bool),
 ∃
 (x_57
 :
 Bool),
 ∃
 (p_8
 :
 Option
 Addr),
 ∃
 (n_12
 :
 Nat),
 ∃
 (c_8
 :
 Nat),
 ∃
 (x_58
 :
 ByteArray),
 gimp
 (true &&
 x)
 (∀
 (w' :
 World),
 S
 w' →
 AtL
 w'
 n_6
 0
 (arrI IntKind.u8 f_17 32 0 ++ (arrI IntKind.u8 f_18 16 0 ++ [Value.string
 x_54,
 Value.int
 IntKind.i64
 x_55,
 Value.bool
 x_56,
 Value.bool
 x_57,
 Value.slice
 p_8
 n_12
 c_8,
 Value.string
 x_58]))) ∧
 ∃
 (f_19
 :
 Nat →
 Int),
 ∃
 (f_20
 :
 Nat →
 Int),
 ∃
 (x_59
 :
 ByteArray),
 ∃
 (x_60
 :
 Int),
 ∃
 (x_61
 :
 Bool),
 ∃
 (x_62
 :
 Bool),
 ∃
 (p_9
 :
 Option
 Addr),
 ∃
 (n_13
 :
 Nat),
 ∃
 (c_9
 :
 Nat),
 ∃
 (x_63
 :
 ByteArray),
 gimp
 (true &&
 x)
 (∀
 (w' :
 World),
 S
 w' →
 AtL
 w'
 n_8
 0
 (arrI IntKind.u8 f_19 32 0 ++ (arrI IntKind.u8 f_20 16 0 ++ [Value.string
 x_59,
 Value.int
 IntKind.i64
 x_60,
 Value.bool
 x_61,
 Value.bool
 x_62,
 Value.slice
 p_9
 n_13
 c_9,
 Value.string
 x_63]))) ∧
 ∃
 (f_21
 :
 Nat →
 Int),
 ∃
 (f_22
 :
 Nat →
 Int),
 ∃
 (x_64
 :
 ByteArray),
 ∃
 (x_65
 :
 Int),
 ∃
 (x_66
 :
 Bool),
 ∃
 (x_67
 :
 Bool),
 ∃
 (p_10
 :
 Option
 Addr),
 ∃
 (n_14
 :
 Nat),
 ∃
 (c_10
 :
 Nat),
 ∃
 (x_68
 :
 ByteArray),
 gimp
 (true &&
 x)
 (∀
 (w' :
 World),
 S
 w' →
 AtL
 w'
 n_6
 0
 (arrI IntKind.u8 f_21 32 0 ++ (arrI IntKind.u8 f_22 16 0 ++ [Value.string
 x_64,
 Value.int
 IntKind.i64
 x_65,
 Value.bool
 x_66,
 Value.bool
 x_67,
 Value.slice
 p_10
 n_14
 c_10,
 Value.string
 x_68]))) ∧
 bsp
 (true &&
 x)
 (CallsS
 Tryz.prog
 27
 #[Value.agg
 (arrI IntKind.u8 f 32 0 ++ (arrI IntKind.u8 f_16 16 0 ++ [Value.string
 x_49,
 Value.int
 IntKind.i64
 x_50,
 Value.bool
 x_51,
 Value.bool
 x_52,
 Value.slice
 p
 n
 c,
 Value.string
 x_53])).toArray,
 Value.agg
 (arrI IntKind.u8 f_17 32 0 ++ (arrI IntKind.u8 f_18 16 0 ++ [Value.string
 x_54,
 Value.int
 IntKind.i64
 x_55,
 Value.bool
 x_56,
 Value.bool
 x_57,
 Value.slice
 p_8
 n_12
 c_8,
 Value.string
 x_58])).toArray]
 w'
 fun
 (e :
 Ending)
 (w' :
 World) =>
 ∃
 (x
 :
 Bool),
 e =
 Ending.returned
 (Value.bool
 x) ∧
 S
 w' ∧
 CallsS
 Tryz.prog
 26
 #[Value.agg
 (arrI IntKind.u8 f_19 32 0 ++ (arrI IntKind.u8 f_20 16 0 ++ [Value.string
 x_59,
 Value.int
 IntKind.i64
 x_60,
 Value.bool
 x_61,
 Value.bool
 x_62,
 Value.slice
 p_9
 n_13
 c_9,
 Value.string
 x_63])).toArray]
 w'
 fun
 (e :
 Ending)
 (w' :
 World) =>
 ∃
 (f
 :
 Nat →
 Int),
 ∃
 (f_23
 :
 Nat →
 Int),
 ∃
 (x_69
 :
 ByteArray),
 ∃
 (x_70
 :
 Int),
 ∃
 (x_71
 :
 Bool),
 ∃
 (x_72
 :
 Bool),
 ∃
 (p
 :
 Option
 Addr),
 ∃
 (n
 :
 Nat),
 ∃
 (c
 :
 Nat),
 ∃
 (x_73
 :
 ByteArray),
 e =
 Ending.returned
 (Value.agg
 (arrI IntKind.u8 f 32 0 ++ (arrI IntKind.u8 f_23 16 0 ++ [Value.string
 x_69,
 Value.int
 IntKind.i64
 x_70,
 Value.bool
 x_71,
 Value.bool
 x_72,
 Value.slice
 p
 n
 c,
 Value.string
 x_73])).toArray) ∧
 S
 w' ∧
 CallsS
 Tryz.prog
 26
 #[Value.agg
 (arrI IntKind.u8 f_21 32 0 ++ (arrI IntKind.u8 f_22 16 0 ++ [Value.string
 x_64,
 Value.int
 IntKind.i64
 x_65,
 Value.bool
 x_66,
 Value.bool
 x_67,
 Value.slice
 p_10
 n_14
 c_10,
 Value.string
 x_68])).toArray]
 w'
 fun
 (e :
 Ending)
 (w' :
 World) =>
 ∃
 (f_24
 :
 Nat →
 Int),
 ∃
 (f_25
 :
 Nat →
 Int),
 ∃
 (x_74
 :
 ByteArray),
 ∃
 (x_75
 :
 Int),
 ∃
 (x_76
 :
 Bool),
 ∃
 (x_77
 :
 Bool),
 ∃
 (p_11
 :
 Option
 Addr),
 ∃
 (n_15
 :
 Nat),
 ∃
 (c_11
 :
 Nat),
 ∃
 (x_78
 :
 ByteArray),
 e =
 Ending.returned
 (Value.agg
 (arrI IntKind.u8 f_24 32 0 ++ (arrI IntKind.u8 f_25 16 0 ++ [Value.string
 x_74,
 Value.int
 IntKind.i64
 x_75,
 Value.bool
 x_76,
 Value.bool
 x_77,
 Value.slice
 p_11
 n_15
 c_11,
 Value.string
 x_78])).toArray) ∧
 CallsS
 Tryz.prog
 28
 #[Value.agg
 (arrI IntKind.u8 f 32 0 ++ (arrI IntKind.u8 f_23 16 0 ++ [Value.string
 x_69,
 Value.int
 IntKind.i64
 x_70,
 Value.bool
 x_71,
 Value.bool
 x_72,
 Value.slice
 p
 n
 c,
 Value.string
 x_73])).toArray,
 Value.agg
 (arrI IntKind.u8 f_24 32 0 ++ (arrI IntKind.u8 f_25 16 0 ++ [Value.string
 x_74,
 Value.int
 IntKind.i64
 x_75,
 Value.bool
 x_76,
 Value.bool
 x_77,
 Value.slice
 p_11
 n_15
 c_11,
 Value.string
 x_78])).toArray]
 w'
 fun
 (e :
 Ending)
 (w' :
 World) =>
 ∃
 (x_79
 :
 Bool),
 e =
 Ending.returned
 (Value.bool
 x_79) ∧
 KeptL
 [n_2,
 n_1]
 W
 w' ∧
 R
 (Ending.returned
 (Value.bool
 (true &&
 x ==
 x_79)))
 w')
 (S
 w' ∧
 S
 w' ∧
 KeptL
 [n_2,
 n_1]
 W
 w' ∧
 R
 (Ending.returned
 (Value.bool
 false))
 w'))
 (S
 w' ∧
 S
 w' ∧
 ∃
 (f
 :
 Nat →
 Int),
 ∃
 (f
 :
 Nat →
 Int),
 ∃
 (x
 :
 ByteArray),
 ∃
 (x
 :
 Int),
 ∃
 (x
 :
 Bool),
 ∃
 (x
 :
 Bool),
 ∃
 (p
 :
 Option
 Addr),
 ∃
 (n
 :
 Nat),
 ∃
 (c
 :
 Nat),
 ∃
 (x
 :
 ByteArray),
 True ∧
 ∃
 (f
 :
 Nat →
 Int),
 ∃
 (f
 :
 Nat →
 Int),
 ∃
 (x
 :
 ByteArray),
 ∃
 (x
 :
 Int),
 ∃
 (x
 :
 Bool),
 ∃
 (x
 :
 Bool),
 ∃
 (p
 :
 Option
 Addr),
 ∃
 (n
 :
 Nat),
 ∃
 (c
 :
 Nat),
 ∃
 (x
 :
 ByteArray),
 True ∧
 ∃
 (f
 :
 Nat →
 Int),
 ∃
 (f
 :
 Nat →
 Int),
 ∃
 (x
 :
 ByteArray),
 ∃
 (x
 :
 Int),
 ∃
 (x
 :
 Bool),
 ∃
 (x
 :
 Bool),
 ∃
 (p
 :
 Option
 Addr),
 ∃
 (n
 :
 Nat),
 ∃
 (c
 :
 Nat),
 ∃
 (x
 :
 ByteArray),
 True ∧
 ∃
 (f
 :
 Nat →
 Int),
 ∃
 (f
 :
 Nat →
 Int),
 ∃
 (x
 :
 ByteArray),
 ∃
 (x
 :
 Int),
 ∃
 (x
 :
 Bool),
 ∃
 (x
 :
 Bool),
 ∃
 (p
 :
 Option
 Addr),
 ∃
 (n
 :
 Nat),
 ∃
 (c
 :
 Nat),
 ∃
 (x
 :
 ByteArray),
 True ∧
 S
 w' ∧
 S
 w' ∧
 KeptL
 [n_2,
 n_1]
 W
 w' ∧
 R
 (Ending.returned
 (Value.bool
 false))
 w'))
 (S w' ∧
 S w' ∧
 S w' ∧
 ∃ (f : Nat → Int),
 ∃ (f :
 Nat → Int),
 ∃ (x :
 ByteArray),
 ∃ (x : Int),
 ∃ (x : Bool),
 ∃ (x : Bool),
 ∃ (p :
 Option
 Addr),
 ∃ (n :
 Nat),
 ∃ (c :
 Nat),
 ∃ (x :
 ByteArray),
 True ∧
 ∃ (f :
 Nat →
 Int),
 ∃ (f :
 Nat →
 Int),
 ∃ (x
 :
 ByteArray),
 ∃ (x
 :
 Int),
 ∃
 (x
 :
 Bool),
 ∃
 (x
 :
 Bool),
 ∃
 (p
 :
 Option
 Addr),
 ∃
 (n
 :
 Nat),
 ∃
 (c
 :
 Nat),
 ∃
 (x
 :
 ByteArray),
 True ∧
 S
 w' ∧
 S
 w' ∧
 ∃
 (f
 :
 Nat →
 Int),
 ∃
 (f
 :
 Nat →
 Int),
 ∃
 (x
 :
 ByteArray),
 ∃
 (x
 :
 Int),
 ∃
 (x
 :
 Bool),
 ∃
 (x
 :
 Bool),
 ∃
 (p
 :
 Option
 Addr),
 ∃
 (n
 :
 Nat),
 ∃
 (c
 :
 Nat),
 ∃
 (x
 :
 ByteArray),
 True ∧
 ∃
 (f
 :
 Nat →
 Int),
 ∃
 (f
 :
 Nat →
 Int),
 ∃
 (x
 :
 ByteArray),
 ∃
 (x
 :
 Int),
 ∃
 (x
 :
 Bool),
 ∃
 (x
 :
 Bool),
 ∃
 (p
 :
 Option
 Addr),
 ∃
 (n
 :
 Nat),
 ∃
 (c
 :
 Nat),
 ∃
 (x
 :
 ByteArray),
 True ∧
 ∃
 (f
 :
 Nat →
 Int),
 ∃
 (f
 :
 Nat →
 Int),
 ∃
 (x
 :
 ByteArray),
 ∃
 (x
 :
 Int),
 ∃
 (x
 :
 Bool),
 ∃
 (x
 :
 Bool),
 ∃
 (p
 :
 Option
 Addr),
 ∃
 (n
 :
 Nat),
 ∃
 (c
 :
 Nat),
 ∃
 (x
 :
 ByteArray),
 True ∧
 ∃
 (f
 :
 Nat →
 Int),
 ∃
 (f
 :
 Nat →
 Int),
 ∃
 (x
 :
 ByteArray),
 ∃
 (x
 :
 Int),
 ∃
 (x
 :
 Bool),
 ∃
 (x
 :
 Bool),
 ∃
 (p
 :
 Option
 Addr),
 ∃
 (n
 :
 Nat),
 ∃
 (c
 :
 Nat),
 ∃
 (x
 :
 ByteArray),
 True ∧
 S
 w' ∧
 S
 w' ∧
 KeptL
 [n_2,
 n_1]
 W
 w' ∧
 R
 (Ending.returned
 (Value.bool
 false))
 w')) ∧
 ∀ (n_7 : Nat) (w1_1 : World),
 NewB w1
 (Obj.cells
 #[Value.int IntKind.u8 0, Value.int IntKind.u8 0,
 Value.int IntKind.u8 0, Value.int IntKind.u8 0,
 Value.int IntKind.u8 0, Value.int IntKind.u8 0,
 Value.int IntKind.u8 0, Value.int IntKind.u8 0,
 Value.int IntKind.u8 0, Value.int IntKind.u8 0,
 Value.int IntKind.u8 0, Value.int IntKind.u8 0,
 Value.int IntKind.u8 0, Value.int IntKind.u8 0,
 Value.int IntKind.u8 0, Value.int IntKind.u8 0,
 Value.int IntKind.u8 0, Value.int IntKind.u8 0,
 Value.int IntKind.u8 0, Value.int IntKind.u8 0,
 Value.int IntKind.u8 0, Value.int IntKind.u8 0,
 Value.int IntKind.u8 0, Value.int IntKind.u8 0,
 Value.int IntKind.u8 0, Value.int IntKind.u8 0,
 Value.int IntKind.u8 0, Value.int IntKind.u8 0,
 Value.int IntKind.u8 0, Value.int IntKind.u8 0,
 Value.int IntKind.u8 0, Value.int IntKind.u8 0,
 Value.int IntKind.u8 0, Value.int IntKind.u8 0,
 Value.int IntKind.u8 0, Value.int IntKind.u8 0,
 Value.int IntKind.u8 0, Value.int IntKind.u8 0,
 Value.int IntKind.u8 0, Value.int IntKind.u8 0,
 Value.int IntKind.u8 0, Value.int IntKind.u8 0,
 Value.int IntKind.u8 0, Value.int IntKind.u8 0,
 Value.int IntKind.u8 0, Value.int IntKind.u8 0,
 Value.int IntKind.u8 0, Value.int IntKind.u8 0,
 Value.string (ByteArray.mk #[]), Value.int IntKind.i64 0,
 Value.bool false, Value.bool false, Value.slice none 0 0,
 Value.string (ByteArray.mk #[])]
 56)
 n_7 w1_1 →
 S w1_1 ∧
 CallsS Tryz.prog 23
 #[Value.agg
 (arrI IntKind.u8 f_2 32 0 ++ (arrI IntKind.u8 f_3 16 0 ++ [Value.string x_5, Value.int IntKind.i64 x_6, Value.bool x_7,
 Value.bool x_8, Value.slice p_2 n_4 c_2, Value.string x_9])).toArray]
 w1_1 fun (e : Ending) (w' : World) =>
 ∃ (f_5 : Nat → Int),
 ∃ (f_6 : Nat → Int),
 ∃ (x_14 : ByteArray),
 ∃ (x_15 : Int),
 ∃ (x_16 : Bool),
 ∃ (x_17 : Bool),
 ∃ (p_4 : Option Addr),
 ∃ (n_8 : Nat),
 ∃ (c_4 : Nat),
 ∃ (x_18 : ByteArray),
 e =
 Ending.returned
 (Value.agg
 (arrI IntKind.u8 f_5 32 0 ++ (arrI IntKind.u8 f_6 16 0 ++ [Value.string x_14,
 Value.int IntKind.i64 x_15, Value.bool x_16,
 Value.bool x_17, Value.slice p_4 n_8 c_4,
 Value.string x_18])).toArray) ∧
 WrL w' n_7 0 54 ∧
 ∀ (w1 : World),
 PutB w' n_7 0
 (arrI IntKind.u8 f 32 0 ++ (arrI IntKind.u8 f_4 16 0 ++ [Value.string x,
 Value.int IntKind.i64 x_10, Value.bool x_11,
 Value.bool x_12, Value.slice p_3 n_5 c_3,
 Value.string x_13]))
 w1 →
 WrL w1 n_6 0 54 ∧
 ∀ (w1_2 : World),
 PutB w1 n_6 0
 (arrI IntKind.u8 f_5 32 0 ++ (arrI IntKind.u8 f_6 16 0 ++ [Value.string x_14,
 Value.int IntKind.i64 x_15, Value.bool x_16,
 Value.bool x_17, Value.slice p_4 n_8 c_4,
 Value.string x_18]))
 w1_2 →
 KeptL [n_2, n_1] W w1_2 ∧
 ∀ (W : World),
 Loc w.heap.size
 [Blk.mk n_2 50
 (arrI IntKind.u8 id2 32 0 ++ (arrI IntKind.u8 au2 16 0 ++ [Value.string g2, Value.int IntKind.i64 v2,
 Value.bool rm2, Value.bool md2,
 Value.slice p2 n2 c2, Value.string t2]))
 0,
 Blk.mk n_1 50
 (arrI IntKind.u8 id 32 0 ++ (arrI IntKind.u8 au 16 0 ++ [Value.string g,
 Value.int IntKind.i64 v, Value.bool rm,
 Value.bool md, Value.slice p n c,
 Value.string t]))
 0]
 w1_2 W →
 ∃ (S : World → Prop),
 S W ∧
 CallsS Tryz.prog 15 #[] W
 fun (e : Ending) (w' : World) =>
 ∃ (x : Bool),
 e = Ending.returned (Value.bool x) ∧
 S w' ∧
 ∃ (f : Nat → Int),
 ∃ (f_7 : Nat → Int),
 ∃ (x_19 : ByteArray),
 ∃ (x_20 : Int),
 ∃ (x_21 : Bool),
 ∃ (x_22 : Bool),
 ∃ (p : Option Addr),
 ∃ (n : Nat),
 ∃ (c : Nat),
 ∃ (x_23 : ByteArray),
 gimp x
 (∀ (w' : World),
 S w' →
 AtL w' n_7 0
 (arrI IntKind.u8 f 32 0 ++ (arrI IntKind.u8 f_7 16 0 ++ [Value.string x_19,
 Value.int IntKind.i64 x_20,
 Value.bool x_21,
 Value.bool x_22,
 Value.slice p n c,
 Value.string x_23]))) ∧
 ∃ (f_8 : Nat → Int),
 ∃ (f_9 : Nat → Int),
 ∃ (x_24 : ByteArray),
 ∃ (x_25 : Int),
 ∃ (x_26 : Bool),
 ∃ (x_27 : Bool),
 ∃ (p_5 : Option Addr),
 ∃ (n_9 : Nat),
 ∃ (c_5 : Nat),
 ∃ (x_28 : ByteArray),
 gimp x
 (∀ (w' : World),
 S w' →
 AtL w' n_7 0
 (arrI IntKind.u8 f_8 32 0 ++ (arrI IntKind.u8 f_9 16 0 ++ [Value.string
 x_24,
 Value.int
 IntKind.i64
 x_25,
 Value.bool x_26,
 Value.bool x_27,
 Value.slice p_5
 n_9 c_5,
 Value.string
 x_28]))) ∧
 bsp x
 (CallsS Tryz.prog 24
 #[Value.agg
 (arrI IntKind.u8 f 32 0 ++ (arrI IntKind.u8 f_7 16 0 ++ [Value.string
 x_19,
 Value.int
 IntKind.i64
 x_20,
 Value.bool x_21,
 Value.bool x_22,
 Value.slice p n
 c,
 Value.string
 x_23])).toArray]
 w'
 fun (e : Ending)
 (w' : World) =>
 ∃ (x : Int),
 e =
 Ending.returned
 (Value.int
 IntKind.i64
 x) ∧
 S w' ∧
 CallsS Tryz.prog
 26
 #[Value.agg
 (arrI IntKind.u8 f_8 32 0 ++ (arrI IntKind.u8 f_9 16 0 ++ [Value.string
 x_24,
 Value.int
 IntKind.i64
 x_25,
 Value.bool
 x_26,
 Value.bool
 x_27,
 Value.slice
 p_5 n_9 c_5,
 Value.string
 x_28])).toArray]
 w'
 fun (e : Ending)
 (w' : World) =>
 ∃ (f :
 Nat → Int),
 ∃ (f_10 :
 Nat → Int),
 ∃ (x_29 :
 ByteArray),
 ∃ (x_30 :
 Int),
 ∃ (x_31 :
 Bool),
 ∃ (x_32 :
 Bool),
 ∃ (p :
 Option
 Addr),
 ∃ (n :
 Nat),
 ∃ (c :
 Nat),
 ∃ (x_33
 :
 ByteArray),
 e =
 Ending.returned
 (Value.agg
 (arrI IntKind.u8 f 32 0 ++ (arrI IntKind.u8 f_10 16 0 ++ [Value.string
 x_29,
 Value.int
 IntKind.i64
 x_30,
 Value.bool
 x_31,
 Value.bool
 x_32,
 Value.slice
 p
 n
 c,
 Value.string
 x_33])).toArray) ∧
 S
 w' ∧
 CallsS
 Tryz.prog
 25
 #[Value.agg
 (arrI IntKind.u8 f 32 0 ++ (arrI IntKind.u8 f_10 16 0 ++ [Value.string
 x_29,
 Value.int
 IntKind.i64
 x_30,
 Value.bool
 x_31,
 Value.bool
 x_32,
 Value.slice
 p
 n
 c,
 Value.string
 x_33])).toArray]
 w'
 fun
 (e :
 Ending)
 (w' :
 World) =>
 ∃
 (x_34
 :
 Int),
 e =
 Ending.returned
 (Value.int
 IntKind.i64
 x_34) ∧
 S
 w' ∧
 ∃
 (f
 :
 Nat →
 Int),
 ∃
 (f_11
 :
 Nat →
 Int),
 ∃
 (x_35
 :
 ByteArray),
 ∃
 (x_36
 :
 Int),
 ∃
 (x_37
 :
 Bool),
 ∃
 (x_38
 :
 Bool),
 ∃
 (p
 :
 Option
 Addr),
 ∃
 (n
 :
 Nat),
 ∃
 (c
 :
 Nat),
 ∃
 (x_39
 :
 ByteArray),
 gimp
 (true &&
 x ==
 x_34)
 (∀
 (w' :
 World),
 S
 w' →
 AtL
 w'
 n_7
 0
 (arrI IntKind.u8 f 32 0 ++ (arrI IntKind.u8 f_11 16 0 ++ [Value.string
 x_35,
 Value.int
 IntKind.i64
 x_36,
 Value.bool
 x_37,
 Value.bool
 x_38,
 Value.slice
 p
 n
 c,
 Value.string
 x_39]))) ∧
 ∃
 (f_12
 :
 Nat →
 Int),
 ∃
 (f_13
 :
 Nat →
 Int),
 ∃
 (x_40
 :
 ByteArray),
 ∃
 (x_41
 :
 Int),
 ∃
 (x_42
 :
 Bool),
 ∃
 (x_43
 :
 Bool),
 ∃
 (p_6
 :
 Option
 Addr),
 ∃
 (n_10
 :
 Nat),
 ∃
 (c_6
 :
 Nat),
 ∃
 (x_44
 :
 ByteArray),
 gimp
 (true &&
 x ==
 x_34)
 (∀
 (w' :
 World),
 S
 w' →
 AtL
 w'
 n_1
 0
 (arrI IntKind.u8 f_12 32 0 ++ (arrI IntKind.u8 f_13 16 0 ++ [Value.string
 x_40,
 Value.int
 IntKind.i64
 x_41,
 Value.bool
 x_42,
 Value.bool
 x_43,
 Value.slice
 p_6
 n_10
 c_6,
 Value.string
 x_44]))) ∧
 bsp
 (true &&
 x ==
 x_34)
 (CallsS
 Tryz.prog
 23
 #[Value.agg
 (arrI IntKind.u8 f_12 32 0 ++ (arrI IntKind.u8 f_13 16 0 ++ [Value.string
 x_40,
 Value.int
 IntKind.i64
 x_41,
 Value.bool
 x_42,
 Value.bool
 x_43,
 Value.slice
 p_6
 n_10
 c_6,
 Value.string
 x_44])).toArray]
 w'
 fun
 (e :
 Ending)
 (w' :
 World) =>
 ∃
 (f_14
 :
 Nat →
 Int),
 ∃
 (f_15
 :
 Nat →
 Int),
 ∃
 (x
 :
 ByteArray),
 ∃
 (x_45
 :
 Int),
 ∃
 (x_46
 :
 Bool),
 ∃
 (x_47
 :
 Bool),
 ∃
 (p_7
 :
 Option
 Addr),
 ∃
 (n_11
 :
 Nat),
 ∃
 (c_7
 :
 Nat),
 ∃
 (x_48
 :
 ByteArray),
 e =
 Ending.returned
 (Value.agg
 (arrI IntKind.u8 f_14 32 0 ++ (arrI IntKind.u8 f_15 16 0 ++ [Value.string
 x,
 Value.int
 IntKind.i64
 x_45,
 Value.bool
 x_46,
 Value.bool
 x_47,
 Value.slice
 p_7
 n_11
 c_7,
 Value.string
 x_48])).toArray) ∧
 S
 w' ∧
 CallsS
 Tryz.prog
 27
 #[Value.agg
 (arrI IntKind.u8 f 32 0 ++ (arrI IntKind.u8 f_11 16 0 ++ [Value.string
 x_35,
 Value.int
 IntKind.i64
 x_36,
 Value.bool
 x_37,
 Value.bool
 x_38,
 Value.slice
 p
 n
 c,
 Value.string
 x_39])).toArray,
 Value.agg
 (arrI IntKind.u8 f_14 32 0 ++ (arrI IntKind.u8 f_15 16 0 ++ [Value.string
 x,
 Value.int
 IntKind.i64
 x_45,
 Value.bool
 x_46,
 Value.bool
 x_47,
 Value.slice
 p_7
 n_11
 c_7,
 Value.string
 x_48])).toArray]
 w'
 fun
 (e :
 Ending)
 (w' :
 World) =>
 ∃
 (x
 :
 Bool),
 e =
 Ending.returned
 (Value.bool
 x) ∧
 S
 w' ∧
 ∃
 (f
 :
 Nat →
 Int),
 ∃
 (f_16
 :
 Nat →
 Int),
 ∃
 (x_49
 :
 ByteArray),
 ∃
 (x_50
 :
 Int),
 ∃
 (x_51
 :
 Bool),
 ∃
 (x_52
 :
 Bool),
 ∃
 (p
 :
 Option
 Addr),
 ∃
 (n
 :
 Nat),
 ∃
 (c
 :
 Nat),
 ∃
 (x_53
 :
 ByteArray),
 gimp
 (true &&
 x)
 (∀
 (w' :
 World),
 S
 w' →
 AtL
 w'
 n_7
 0
 (arrI IntKind.u8 f 32 0 ++ (arrI IntKind.u8 f_16 16 0 ++ [Value.string
 x_49,
 Value.int
 IntKind.i64
 x_50,
 Value.bool
 x_51,
 Value.bool
 x_52,
 Value.slice
 p
 n
 c,
 Value.string
 x_53]))) ∧
 ∃
 (f_17
 :
 Nat →
 Int),
 ∃
 (f_18
 :
 Nat →
 Int),
 ∃
 (x_54
 :
 ByteArray),
 ∃
 (x_55
 :
 Int),
 ∃
 (x_56
 :
 Bool),
 ∃
 (x_57
 :
 Bool),
 ∃
 (p_8
 :
 Option
 Addr),
 ∃
 (n_12
 :
 Nat),
 ∃
 (c_8
 :
 Nat),
 ∃
 (x_58
 :
 ByteArray),
 gimp
 (true &&
 x)
 (∀
 (w' :
 World),
 S
 w' →
 AtL
 w'
 n_6
 0
 (arrI IntKind.u8 f_17 32 0 ++ (arrI IntKind.u8 f_18 16 0 ++ [Value.string
 x_54,
 Value.int
 IntKind.i64
 x_55,
 Value.bool
 x_56,
 Value.bool
 x_57,
 Value.slice
 p_8
 n_12
 c_8,
 Value.string
 x_58]))) ∧
 ∃
 (f_19
 :
 Nat →
 Int),
 ∃
 (f_20
 :
 Nat →
 Int),
 ∃
 (x_59
 :
 ByteArray),
 ∃
 (x_60
 :
 Int),
 ∃
 (x_61
 :
 Bool),
 ∃
 (x_62
 :
 Bool),
 ∃
 (p_9
 :
 Option
 Addr),
 ∃
 (n_13
 :
 Nat),
 ∃
 (c_9
 :
 Nat),
 ∃
 (x_63
 :
 ByteArray),
 gimp
 (true &&
 x)
 (∀
 (w' :
 World),
 S
 w' →
 AtL
 w'
 n_7
 0
 (arrI IntKind.u8 f_19 32 0 ++ (arrI IntKind.u8 f_20 16 0 ++ [Value.string
 x_59,
 Value.int
 IntKind.i64
 x_60,
 Value.bool
 x_61,
 Value.bool
 x_62,
 Value.slice
 p_9
 n_13
 c_9,
 Value.string
 x_63]))) ∧
 ∃
 (f_21
 :
 Nat →
 Int),
 ∃
 (f_22
 :
 Nat →
 Int),
 ∃
 (x_64
 :
 ByteArray),
 ∃
 (x_65
 :
 Int),
 ∃
 (x_66
 :
 Bool),
 ∃
 (x_67
 :
 Bool),
 ∃
 (p_10
 :
 Option
 Addr),
 ∃
 (n_14
 :
 Nat),
 ∃
 (c_10
 :
 Nat),
 ∃
 (x_68
 :
 ByteArray),
 gimp
 (true &&
 x)
 (∀
 (w' :
 World),
 S
 w' →
 AtL
 w'
 n_6
 0
 (arrI IntKind.u8 f_21 32 0 ++ (arrI IntKind.u8 f_22 16 0 ++ [Value.string
 x_64,
 Value.int
 IntKind.i64
 x_65,
 Value.bool
 x_66,
 Value.bool
 x_67,
 Value.slice
 p_10
 n_14
 c_10,
 Value.string
 x_68]))) ∧
 bsp
 (true &&
 x)
 (CallsS
 Tryz.prog
 27
 #[Value.agg
 (arrI IntKind.u8 f 32 0 ++ (arrI IntKind.u8 f_16 16 0 ++ [Value.string
 x_49,
 Value.int
 IntKind.i64
 x_50,
 Value.bool
 x_51,
 Value.bool
 x_52,
 Value.slice
 p
 n
 c,
 Value.string
 x_53])).toArray,
 Value.agg
 (arrI IntKind.u8 f_17 32 0 ++ (arrI IntKind.u8 f_18 16 0 ++ [Value.string
 x_54,
 Value.int
 IntKind.i64
 x_55,
 Value.bool
 x_56,
 Value.bool
 x_57,
 Value.slice
 p_8
 n_12
 c_8,
 Value.string
 x_58])).toArray]
 w'
 fun
 (e :
 Ending)
 (w' :
 World) =>
 ∃
 (x
 :
 Bool),
 e =
 Ending.returned
 (Value.bool
 x) ∧
 S
 w' ∧
 CallsS
 Tryz.prog
 26
 #[Value.agg
 (arrI IntKind.u8 f_19 32 0 ++ (arrI IntKind.u8 f_20 16 0 ++ [Value.string
 x_59,
 Value.int
 IntKind.i64
 x_60,
 Value.bool
 x_61,
 Value.bool
 x_62,
 Value.slice
 p_9
 n_13
 c_9,
 Value.string
 x_63])).toArray]
 w'
 fun
 (e :
 Ending)
 (w' :
 World) =>
 ∃
 (f
 :
 Nat →
 Int),
 ∃
 (f_23
 :
 Nat →
 Int),
 ∃
 (x_69
 :
 ByteArray),
 ∃
 (x_70
 :
 Int),
 ∃
 (x_71
 :
 Bool),
 ∃
 (x_72
 :
 Bool),
 ∃
 (p
 :
 Option
 Addr),
 ∃
 (n
 :
 Nat),
 ∃
 (c
 :
 Nat),
 ∃
 (x_73
 :
 ByteArray),
 e =
 Ending.returned
 (Value.agg
 (arrI IntKind.u8 f 32 0 ++ (arrI IntKind.u8 f_23 16 0 ++ [Value.string
 x_69,
 Value.int
 IntKind.i64
 x_70,
 Value.bool
 x_71,
 Value.bool
 x_72,
 Value.slice
 p
 n
 c,
 Value.string
 x_73])).toArray) ∧
 S
 w' ∧
 CallsS
 Tryz.prog
 26
 #[Value.agg
 (arrI IntKind.u8 f_21 32 0 ++ (arrI IntKind.u8 f_22 16 0 ++ [Value.string
 x_64,
 Value.int
 IntKind.i64
 x_65,
 Value.bool
 x_66,
 Value.bool
 x_67,
 Value.slice
 p_10
 n_14
 c_10,
 Value.string
 x_68])).toArray]
 w'
 fun
 (e :
 Ending)
 (w' :
 World) =>
 ∃
 (f_24
 :
 Nat →
 Int),
 ∃
 (f_25
 :
 Nat →
 Int),
 ∃
 (x_74
 :
 ByteArray),
 ∃
 (x_75
 :
 Int),
 ∃
 (x_76
 :
 Bool),
 ∃
 (x_77
 :
 Bool),
 ∃
 (p_11
 :
 Option
 Addr),
 ∃
 (n_15
 :
 Nat),
 ∃
 (c_11
 :
 Nat),
 ∃
 (x_78
 :
 ByteArray),
 e =
 Ending.returned
 (Value.agg
 (arrI IntKind.u8 f_24 32 0 ++ (arrI IntKind.u8 f_25 16 0 ++ [Value.string
 x_74,
 Value.int
 IntKind.i64
 x_75,
 Value.bool
 x_76,
 Value.bool
 x_77,
 Value.slice
 p_11
 n_15
 c_11,
 Value.string
 x_78])).toArray) ∧
 CallsS
 Tryz.prog
 28
 #[Value.agg
 (arrI IntKind.u8 f 32 0 ++ (arrI IntKind.u8 f_23 16 0 ++ [Value.string
 x_69,
 Value.int
 IntKind.i64
 x_70,
 Value.bool
 x_71,
 Value.bool
 x_72,
 Value.slice
 p
 n
 c,
 Value.string
 x_73])).toArray,
 Value.agg
 (arrI IntKind.u8 f_24 32 0 ++ (arrI IntKind.u8 f_25 16 0 ++ [Value.string
 x_74,
 Value.int
 IntKind.i64
 x_75,
 Value.bool
 x_76,
 Value.bool
 x_77,
 Value.slice
 p_11
 n_15
 c_11,
 Value.string
 x_78])).toArray]
 w'
 fun
 (e :
 Ending)
 (w' :
 World) =>
 ∃
 (x_79
 :
 Bool),
 e =
 Ending.returned
 (Value.bool
 x_79) ∧
 KeptL
 [n_2,
 n_1]
 W
 w' ∧
 R
 (Ending.returned
 (Value.bool
 (true &&
 x ==
 x_79)))
 w')
 (S
 w' ∧
 S
 w' ∧
 KeptL
 [n_2,
 n_1]
 W
 w' ∧
 R
 (Ending.returned
 (Value.bool
 false))
 w'))
 (S
 w' ∧
 S
 w' ∧
 ∃
 (f
 :
 Nat →
 Int),
 ∃
 (f
 :
 Nat →
 Int),
 ∃
 (x
 :
 ByteArray),
 ∃
 (x
 :
 Int),
 ∃
 (x
 :
 Bool),
 ∃
 (x
 :
 Bool),
 ∃
 (p
 :
 Option
 Addr),
 ∃
 (n
 :
 Nat),
 ∃
 (c
 :
 Nat),
 ∃
 (x
 :
 ByteArray),
 True ∧
 ∃
 (f
 :
 Nat →
 Int),
 ∃
 (f
 :
 Nat →
 Int),
 ∃
 (x
 :
 ByteArray),
 ∃
 (x
 :
 Int),
 ∃
 (x
 :
 Bool),
 ∃
 (x
 :
 Bool),
 ∃
 (p
 :
 Option
 Addr),
 ∃
 (n
 :
 Nat),
 ∃
 (c
 :
 Nat),
 ∃
 (x
 :
 ByteArray),
 True ∧
 ∃
 (f
 :
 Nat →
 Int),
 ∃
 (f
 :
 Nat →
 Int),
 ∃
 (x
 :
 ByteArray),
 ∃
 (x
 :
 Int),
 ∃
 (x
 :
 Bool),
 ∃
 (x
 :
 Bool),
 ∃
 (p
 :
 Option
 Addr),
 ∃
 (n
 :
 Nat),
 ∃
 (c
 :
 Nat),
 ∃
 (x
 :
 ByteArray),
 True ∧
 ∃
 (f
 :
 Nat →
 Int),
 ∃
 (f
 :
 Nat →
 Int),
 ∃
 (x
 :
 ByteArray),
 ∃
 (x
 :
 Int),
 ∃
 (x
 :
 Bool),
 ∃
 (x
 :
 Bool),
 ∃
 (p
 :
 Option
 Addr),
 ∃
 (n
 :
 Nat),
 ∃
 (c
 :
 Nat),
 ∃
 (x
 :
 ByteArray),
 True ∧
 S
 w' ∧
 S
 w' ∧
 KeptL
 [n_2,
 n_1]
 W
 w' ∧
 R
 (Ending.returned
 (Value.bool
 false))
 w'))
 (S w' ∧
 S w' ∧
 S w' ∧
 ∃ (f : Nat → Int),
 ∃ (f :
 Nat → Int),
 ∃ (x :
 ByteArray),
 ∃ (x : Int),
 ∃ (x : Bool),
 ∃ (x : Bool),
 ∃ (p :
 Option
 Addr),
 ∃ (n :
 Nat),
 ∃ (c :
 Nat),
 ∃ (x :
 ByteArray),
 True ∧
 ∃ (f :
 Nat →
 Int),
 ∃ (f :
 Nat →
 Int),
 ∃ (x
 :
 ByteArray),
 ∃ (x
 :
 Int),
 ∃
 (x
 :
 Bool),
 ∃
 (x
 :
 Bool),
 ∃
 (p
 :
 Option
 Addr),
 ∃
 (n
 :
 Nat),
 ∃
 (c
 :
 Nat),
 ∃
 (x
 :
 ByteArray),
 True ∧
 S
 w' ∧
 S
 w' ∧
 ∃
 (f
 :
 Nat →
 Int),
 ∃
 (f
 :
 Nat →
 Int),
 ∃
 (x
 :
 ByteArray),
 ∃
 (x
 :
 Int),
 ∃
 (x
 :
 Bool),
 ∃
 (x
 :
 Bool),
 ∃
 (p
 :
 Option
 Addr),
 ∃
 (n
 :
 Nat),
 ∃
 (c
 :
 Nat),
 ∃
 (x
 :
 ByteArray),
 True ∧
 ∃
 (f
 :
 Nat →
 Int),
 ∃
 (f
 :
 Nat →
 Int),
 ∃
 (x
 :
 ByteArray),
 ∃
 (x
 :
 Int),
 ∃
 (x
 :
 Bool),
 ∃
 (x
 :
 Bool),
 ∃
 (p
 :
 Option
 Addr),
 ∃
 (n
 :
 Nat),
 ∃
 (c
 :
 Nat),
 ∃
 (x
 :
 ByteArray),
 True ∧
 ∃
 (f
 :
 Nat →
 Int),
 ∃
 (f
 :
 Nat →
 Int),
 ∃
 (x
 :
 ByteArray),
 ∃
 (x
 :
 Int),
 ∃
 (x
 :
 Bool),
 ∃
 (x
 :
 Bool),
 ∃
 (p
 :
 Option
 Addr),
 ∃
 (n
 :
 Nat),
 ∃
 (c
 :
 Nat),
 ∃
 (x
 :
 ByteArray),
 True ∧
 ∃
 (f
 :
 Nat →
 Int),
 ∃
 (f
 :
 Nat →
 Int),
 ∃
 (x
 :
 ByteArray),
 ∃
 (x
 :
 Int),
 ∃
 (x
 :
 Bool),
 ∃
 (x
 :
 Bool),
 ∃
 (p
 :
 Option
 Addr),
 ∃
 (n
 :
 Nat),
 ∃
 (c
 :
 Nat),
 ∃
 (x
 :
 ByteArray),
 True ∧
 S
 w' ∧
 S
 w' ∧
 KeptL
 [n_2,
 n_1]
 W
 w' ∧
 R
 (Ending.returned
 (Value.bool
 false))
 w')) ∧
 (∀ (n_5 : Nat) (w1 : World),
 NewB W
 (Obj.cells
 #[Value.int IntKind.u8 0, Value.int IntKind.u8 0, Value.int IntKind.u8 0,
 Value.int IntKind.u8 0, Value.int IntKind.u8 0, Value.int IntKind.u8 0,
 Value.int IntKind.u8 0, Value.int IntKind.u8 0, Value.int IntKind.u8 0,
 Value.int IntKind.u8 0, Value.int IntKind.u8 0, Value.int IntKind.u8 0,
 Value.int IntKind.u8 0, Value.int IntKind.u8 0, Value.int IntKind.u8 0,
 Value.int IntKind.u8 0, Value.int IntKind.u8 0, Value.int IntKind.u8 0,
 Value.int IntKind.u8 0, Value.int IntKind.u8 0, Value.int IntKind.u8 0,
 Value.int IntKind.u8 0, Value.int IntKind.u8 0, Value.int IntKind.u8 0,
 Value.int IntKind.u8 0, Value.int IntKind.u8 0, Value.int IntKind.u8 0,
 Value.int IntKind.u8 0, Value.int IntKind.u8 0, Value.int IntKind.u8 0,
 Value.int IntKind.u8 0, Value.int IntKind.u8 0, Value.int IntKind.u8 0,
 Value.int IntKind.u8 0, Value.int IntKind.u8 0, Value.int IntKind.u8 0,
 Value.int IntKind.u8 0, Value.int IntKind.u8 0, Value.int IntKind.u8 0,
 Value.int IntKind.u8 0, Value.int IntKind.u8 0, Value.int IntKind.u8 0,
 Value.int IntKind.u8 0, Value.int IntKind.u8 0, Value.int IntKind.u8 0,
 Value.int IntKind.u8 0, Value.int IntKind.u8 0, Value.int IntKind.u8 0,
 Value.string (ByteArray.mk #[]), Value.int IntKind.i64 0, Value.bool false,
 Value.bool false, Value.slice none 0 0, Value.string (ByteArray.mk #[])]
 56)
 n_5 w1 →
 S w1 ∧
 (CallsS Tryz.prog 23
 #[Value.agg
 (arrI IntKind.u8 f 32 0 ++ (arrI IntKind.u8 f_1 16 0 ++ [Value.string x, Value.int IntKind.i64 x_1,
 Value.bool x_2, Value.bool x_3, Value.slice p_1 n_3 c_1, Value.string x_4])).toArray]
 w1 fun (e : Ending) (w' : World) =>
 ∃ (f : Nat → Int),
 ∃ (f_4 : Nat → Int),
 ∃ (x : ByteArray),
 ∃ (x_10 : Int),
 ∃ (x_11 : Bool),
 ∃ (x_12 : Bool),
 ∃ (p_3 : Option Addr),
 ∃ (n_6 : Nat),
 ∃ (c_3 : Nat),
 ∃ (x_13 : ByteArray),
 e =
 Ending.returned
 (Value.agg
 (arrI IntKind.u8 f 32 0 ++ (arrI IntKind.u8 f_4 16 0 ++ [Value.string x, Value.int IntKind.i64 x_10, Value.bool x_11,
 Value.bool x_12, Value.slice p_3 n_6 c_3, Value.string x_13])).toArray) ∧
 S w' ∧
 (CallsS Tryz.prog 23
 #[Value.agg
 (arrI IntKind.u8 f_2 32 0 ++ (arrI IntKind.u8 f_3 16 0 ++ [Value.string x_5, Value.int IntKind.i64 x_6, Value.bool x_7,
 Value.bool x_8, Value.slice p_2 n_4 c_2, Value.string x_9])).toArray]
 w' fun (e : Ending) (w' : World) =>
 ∃ (f_5 : Nat → Int),
 ∃ (f_6 : Nat → Int),
 ∃ (x_14 : ByteArray),
 ∃ (x_15 : Int),
 ∃ (x_16 : Bool),
 ∃ (x_17 : Bool),
 ∃ (p_4 : Option Addr),
 ∃ (n_7 : Nat),
 ∃ (c_4 : Nat),
 ∃ (x_18 : ByteArray),
 e =
 Ending.returned
 (Value.agg
 (arrI IntKind.u8 f_5 32 0 ++ (arrI IntKind.u8 f_6 16 0 ++ [Value.string x_14,
 Value.int IntKind.i64 x_15, Value.bool x_16,
 Value.bool x_17, Value.slice p_4 n_7 c_4,
 Value.string x_18])).toArray) ∧
 ∀ (n_8 : Nat) (w1 : World),
 NewB w'
 (Obj.cells
 #[Value.int IntKind.u8 0, Value.int IntKind.u8 0,
 Value.int IntKind.u8 0, Value.int IntKind.u8 0,
 Value.int IntKind.u8 0, Value.int IntKind.u8 0,
 Value.int IntKind.u8 0, Value.int IntKind.u8 0,
 Value.int IntKind.u8 0, Value.int IntKind.u8 0,
 Value.int IntKind.u8 0, Value.int IntKind.u8 0,
 Value.int IntKind.u8 0, Value.int IntKind.u8 0,
 Value.int IntKind.u8 0, Value.int IntKind.u8 0,
 Value.int IntKind.u8 0, Value.int IntKind.u8 0,
 Value.int IntKind.u8 0, Value.int IntKind.u8 0,
 Value.int IntKind.u8 0, Value.int IntKind.u8 0,
 Value.int IntKind.u8 0, Value.int IntKind.u8 0,
 Value.int IntKind.u8 0, Value.int IntKind.u8 0,
 Value.int IntKind.u8 0, Value.int IntKind.u8 0,
 Value.int IntKind.u8 0, Value.int IntKind.u8 0,
 Value.int IntKind.u8 0, Value.int IntKind.u8 0,
 Value.int IntKind.u8 0, Value.int IntKind.u8 0,
 Value.int IntKind.u8 0, Value.int IntKind.u8 0,
 Value.int IntKind.u8 0, Value.int IntKind.u8 0,
 Value.int IntKind.u8 0, Value.int IntKind.u8 0,
 Value.int IntKind.u8 0, Value.int IntKind.u8 0,
 Value.int IntKind.u8 0, Value.int IntKind.u8 0,
 Value.int IntKind.u8 0, Value.int IntKind.u8 0,
 Value.int IntKind.u8 0, Value.int IntKind.u8 0,
 Value.string (ByteArray.mk #[]), Value.int IntKind.i64 0,
 Value.bool false, Value.bool false, Value.slice none 0 0,
 Value.string (ByteArray.mk #[])]
 56)
 n_8 w1 →
 S w1 ∧
 WrL w1 n_5 0 54 ∧
 ∀ (w1_1 : World),
 PutB w1 n_5 0
 (arrI IntKind.u8 f 32 0 ++ (arrI IntKind.u8 f_4 16 0 ++ [Value.string x,
 Value.int IntKind.i64 x_10, Value.bool x_11,
 Value.bool x_12, Value.slice p_3 n_6 c_3,
 Value.string x_13]))
 w1_1 →
 WrL w1_1 n_8 0 54 ∧
 ∀ (w1 : World),
 PutB w1_1 n_8 0
 (arrI IntKind.u8 f_5 32 0 ++ (arrI IntKind.u8 f_6 16 0 ++ [Value.string x_14,
 Value.int IntKind.i64 x_15, Value.bool x_16,
 Value.bool x_17, Value.slice p_4 n_7 c_4,
 Value.string x_18]))
 w1 →
 KeptL [n_2, n_1] W w1 ∧
 ∀ (W : World),
 Loc w.heap.size
 [Blk.mk n_2 50
 (arrI IntKind.u8 id2 32 0 ++ (arrI IntKind.u8 au2 16 0 ++ [Value.string g2, Value.int IntKind.i64 v2,
 Value.bool rm2, Value.bool md2,
 Value.slice p2 n2 c2, Value.string t2]))
 0,
 Blk.mk n_1 50
 (arrI IntKind.u8 id 32 0 ++ (arrI IntKind.u8 au 16 0 ++ [Value.string g,
 Value.int IntKind.i64 v, Value.bool rm,
 Value.bool md, Value.slice p n c,
 Value.string t]))
 0]
 w1 W →
 ∃ (S : World → Prop),
 S W ∧
 CallsS Tryz.prog 15 #[] W
 fun (e : Ending) (w' : World) =>
 ∃ (x : Bool),
 e = Ending.returned (Value.bool x) ∧
 S w' ∧
 ∃ (f : Nat → Int),
 ∃ (f_7 : Nat → Int),
 ∃ (x_19 : ByteArray),
 ∃ (x_20 : Int),
 ∃ (x_21 : Bool),
 ∃ (x_22 : Bool),
 ∃ (p : Option Addr),
 ∃ (n : Nat),
 ∃ (c : Nat),
 ∃ (x_23 : ByteArray),
 gimp x
 (∀ (w' : World),
 S w' →
 AtL w' n_5 0
 (arrI IntKind.u8 f 32 0 ++ (arrI IntKind.u8 f_7 16 0 ++ [Value.string x_19,
 Value.int IntKind.i64 x_20,
 Value.bool x_21,
 Value.bool x_22,
 Value.slice p n c,
 Value.string x_23]))) ∧
 ∃ (f_8 : Nat → Int),
 ∃ (f_9 : Nat → Int),
 ∃ (x_24 : ByteArray),
 ∃ (x_25 : Int),
 ∃ (x_26 : Bool),
 ∃ (x_27 : Bool),
 ∃ (p_5 : Option Addr),
 ∃ (n_9 : Nat),
 ∃ (c_5 : Nat),
 ∃ (x_28 : ByteArray),
 gimp x
 (∀ (w' : World),
 S w' →
 AtL w' n_5 0
 (arrI IntKind.u8 f_8 32 0 ++ (arrI IntKind.u8 f_9 16 0 ++ [Value.string
 x_24,
 Value.int
 IntKind.i64
 x_25,
 Value.bool x_26,
 Value.bool x_27,
 Value.slice p_5
 n_9 c_5,
 Value.string
 x_28]))) ∧
 bsp x
 (CallsS Tryz.prog 24
 #[Value.agg
 (arrI IntKind.u8 f 32 0 ++ (arrI IntKind.u8 f_7 16 0 ++ [Value.string
 x_19,
 Value.int
 IntKind.i64
 x_20,
 Value.bool x_21,
 Value.bool x_22,
 Value.slice p n
 c,
 Value.string
 x_23])).toArray]
 w'
 fun (e : Ending)
 (w' : World) =>
 ∃ (x : Int),
 e =
 Ending.returned
 (Value.int
 IntKind.i64
 x) ∧
 S w' ∧
 CallsS Tryz.prog
 26
 #[Value.agg
 (arrI IntKind.u8 f_8 32 0 ++ (arrI IntKind.u8 f_9 16 0 ++ [Value.string
 x_24,
 Value.int
 IntKind.i64
 x_25,
 Value.bool
 x_26,
 Value.bool
 x_27,
 Value.slice
 p_5 n_9 c_5,
 Value.string
 x_28])).toArray]
 w'
 fun (e : Ending)
 (w' : World) =>
 ∃ (f :
 Nat → Int),
 ∃ (f_10 :
 Nat → Int),
 ∃ (x_29 :
 ByteArray),
 ∃ (x_30 :
 Int),
 ∃ (x_31 :
 Bool),
 ∃ (x_32 :
 Bool),
 ∃ (p :
 Option
 Addr),
 ∃ (n :
 Nat),
 ∃ (c :
 Nat),
 ∃ (x_33
 :
 ByteArray),
 e =
 Ending.returned
 (Value.agg
 (arrI IntKind.u8 f 32 0 ++ (arrI IntKind.u8 f_10 16 0 ++ [Value.string
 x_29,
 Value.int
 IntKind.i64
 x_30,
 Value.bool
 x_31,
 Value.bool
 x_32,
 Value.slice
 p
 n
 c,
 Value.string
 x_33])).toArray) ∧
 S
 w' ∧
 CallsS
 Tryz.prog
 25
 #[Value.agg
 (arrI IntKind.u8 f 32 0 ++ (arrI IntKind.u8 f_10 16 0 ++ [Value.string
 x_29,
 Value.int
 IntKind.i64
 x_30,
 Value.bool
 x_31,
 Value.bool
 x_32,
 Value.slice
 p
 n
 c,
 Value.string
 x_33])).toArray]
 w'
 fun
 (e :
 Ending)
 (w' :
 World) =>
 ∃
 (x_34
 :
 Int),
 e =
 Ending.returned
 (Value.int
 IntKind.i64
 x_34) ∧
 S
 w' ∧
 ∃
 (f
 :
 Nat →
 Int),
 ∃
 (f_11
 :
 Nat →
 Int),
 ∃
 (x_35
 :
 ByteArray),
 ∃
 (x_36
 :
 Int),
 ∃
 (x_37
 :
 Bool),
 ∃
 (x_38
 :
 Bool),
 ∃
 (p
 :
 Option
 Addr),
 ∃
 (n
 :
 Nat),
 ∃
 (c
 :
 Nat),
 ∃
 (x_39
 :
 ByteArray),
 gimp
 (true &&
 x ==
 x_34)
 (∀
 (w' :
 World),
 S
 w' →
 AtL
 w'
 n_5
 0
 (arrI IntKind.u8 f 32 0 ++ (arrI IntKind.u8 f_11 16 0 ++ [Value.string
 x_35,
 Value.int
 IntKind.i64
 x_36,
 Value.bool
 x_37,
 Value.bool
 x_38,
 Value.slice
 p
 n
 c,
 Value.string
 x_39]))) ∧
 ∃
 (f_12
 :
 Nat →
 Int),
 ∃
 (f_13
 :
 Nat →
 Int),
 ∃
 (x_40
 :
 ByteArray),
 ∃
 (x_41
 :
 Int),
 ∃
 (x_42
 :
 Bool),
 ∃
 (x_43
 :
 Bool),
 ∃
 (p_6
 :
 Option
 Addr),
 ∃
 (n_10
 :
 Nat),
 ∃
 (c_6
 :
 Nat),
 ∃
 (x_44
 :
 ByteArray),
 gimp
 (true &&
 x ==
 x_34)
 (∀
 (w' :
 World),
 S
 w' →
 AtL
 w'
 n_1
 0
 (arrI IntKind.u8 f_12 32 0 ++ (arrI IntKind.u8 f_13 16 0 ++ [Value.string
 x_40,
 Value.int
 IntKind.i64
 x_41,
 Value.bool
 x_42,
 Value.bool
 x_43,
 Value.slice
 p_6
 n_10
 c_6,
 Value.string
 x_44]))) ∧
 bsp
 (true &&
 x ==
 x_34)
 (CallsS
 Tryz.prog
 23
 #[Value.agg
 (arrI IntKind.u8 f_12 32 0 ++ (arrI IntKind.u8 f_13 16 0 ++ [Value.string
 x_40,
 Value.int
 IntKind.i64
 x_41,
 Value.bool
 x_42,
 Value.bool
 x_43,
 Value.slice
 p_6
 n_10
 c_6,
 Value.string
 x_44])).toArray]
 w'
 fun
 (e :
 Ending)
 (w' :
 World) =>
 ∃
 (f_14
 :
 Nat →
 Int),
 ∃
 (f_15
 :
 Nat →
 Int),
 ∃
 (x
 :
 ByteArray),
 ∃
 (x_45
 :
 Int),
 ∃
 (x_46
 :
 Bool),
 ∃
 (x_47
 :
 Bool),
 ∃
 (p_7
 :
 Option
 Addr),
 ∃
 (n_11
 :
 Nat),
 ∃
 (c_7
 :
 Nat),
 ∃
 (x_48
 :
 ByteArray),
 e =
 Ending.returned
 (Value.agg
 (arrI IntKind.u8 f_14 32 0 ++ (arrI IntKind.u8 f_15 16 0 ++ [Value.string
 x,
 Value.int
 IntKind.i64
 x_45,
 Value.bool
 x_46,
 Value.bool
 x_47,
 Value.slice
 p_7
 n_11
 c_7,
 Value.string
 x_48])).toArray) ∧
 S
 w' ∧
 CallsS
 Tryz.prog
 27
 #[Value.agg
 (arrI IntKind.u8 f 32 0 ++ (arrI IntKind.u8 f_11 16 0 ++ [Value.string
 x_35,
 Value.int
 IntKind.i64
 x_36,
 Value.bool
 x_37,
 Value.bool
 x_38,
 Value.slice
 p
 n
 c,
 Value.string
 x_39])).toArray,
 Value.agg
 (arrI IntKind.u8 f_14 32 0 ++ (arrI IntKind.u8 f_15 16 0 ++ [Value.string
 x,
 Value.int
 IntKind.i64
 x_45,
 Value.bool
 x_46,
 Value.bool
 x_47,
 Value.slice
 p_7
 n_11
 c_7,
 Value.string
 x_48])).toArray]
 w'
 fun
 (e :
 Ending)
 (w' :
 World) =>
 ∃
 (x
 :
 Bool),
 e =
 Ending.returned
 (Value.bool
 x) ∧
 S
 w' ∧
 ∃
 (f
 :
 Nat →
 Int),
 ∃
 (f_16
 :
 Nat →
 Int),
 ∃
 (x_49
 :
 ByteArray),
 ∃
 (x_50
 :
 Int),
 ∃
 (x_51
 :
 Bool),
 ∃
 (x_52
 :
 Bool),
 ∃
 (p
 :
 Option
 Addr),
 ∃
 (n
 :
 Nat),
 ∃
 (c
 :
 Nat),
 ∃
 (x_53
 :
 ByteArray),
 gimp
 (true &&
 x)
 (∀
 (w' :
 World),
 S
 w' →
 AtL
 w'
 n_5
 0
 (arrI IntKind.u8 f 32 0 ++ (arrI IntKind.u8 f_16 16 0 ++ [Value.string
 x_49,
 Value.int
 IntKind.i64
 x_50,
 Value.bool
 x_51,
 Value.bool
 x_52,
 Value.slice
 p
 n
 c,
 Value.string
 x_53]))) ∧
 ∃
 (f_17
 :
 Nat →
 Int),
 ∃
 (f_18
 :
 Nat →
 Int),
 ∃
 (x_54
 :
 ByteArray),
 ∃
 (x_55
 :
 Int),
 ∃
 (x_56
 :
 Bool),
 ∃
 (x_57
 :
 Bool),
 ∃
 (p_8
 :
 Option
 Addr),
 ∃
 (n_12
 :
 Nat),
 ∃
 (c_8
 :
 Nat),
 ∃
 (x_58
 :
 ByteArray),
 gimp
 (true &&
 x)
 (∀
 (w' :
 World),
 S
 w' →
 AtL
 w'
 n_8
 0
 (arrI IntKind.u8 f_17 32 0 ++ (arrI IntKind.u8 f_18 16 0 ++ [Value.string
 x_54,
 Value.int
 IntKind.i64
 x_55,
 Value.bool
 x_56,
 Value.bool
 x_57,
 Value.slice
 p_8
 n_12
 c_8,
 Value.string
 x_58]))) ∧
 ∃
 (f_19
 :
 Nat →
 Int),
 ∃
 (f_20
 :
 Nat →
 Int),
 ∃
 (x_59
 :
 ByteArray),
 ∃
 (x_60
 :
 Int),
 ∃
 (x_61
 :
 Bool),
 ∃
 (x_62
 :
 Bool),
 ∃
 (p_9
 :
 Option
 Addr),
 ∃
 (n_13
 :
 Nat),
 ∃
 (c_9
 :
 Nat),
 ∃
 (x_63
 :
 ByteArray),
 gimp
 (true &&
 x)
 (∀
 (w' :
 World),
 S
 w' →
 AtL
 w'
 n_5
 0
 (arrI IntKind.u8 f_19 32 0 ++ (arrI IntKind.u8 f_20 16 0 ++ [Value.string
 x_59,
 Value.int
 IntKind.i64
 x_60,
 Value.bool
 x_61,
 Value.bool
 x_62,
 Value.slice
 p_9
 n_13
 c_9,
 Value.string
 x_63]))) ∧
 ∃
 (f_21
 :
 Nat →
 Int),
 ∃
 (f_22
 :
 Nat →
 Int),
 ∃
 (x_64
 :
 ByteArray),
 ∃
 (x_65
 :
 Int),
 ∃
 (x_66
 :
 Bool),
 ∃
 (x_67
 :
 Bool),
 ∃
 (p_10
 :
 Option
 Addr),
 ∃
 (n_14
 :
 Nat),
 ∃
 (c_10
 :
 Nat),
 ∃
 (x_68
 :
 ByteArray),
 gimp
 (true &&
 x)
 (∀
 (w' :
 World),
 S
 w' →
 AtL
 w'
 n_8
 0
 (arrI IntKind.u8 f_21 32 0 ++ (arrI IntKind.u8 f_22 16 0 ++ [Value.string
 x_64,
 Value.int
 IntKind.i64
 x_65,
 Value.bool
 x_66,
 Value.bool
 x_67,
 Value.slice
 p_10
 n_14
 c_10,
 Value.string
 x_68]))) ∧
 bsp
 (true &&
 x)
 (CallsS
 Tryz.prog
 27
 #[Value.agg
 (arrI IntKind.u8 f 32 0 ++ (arrI IntKind.u8 f_16 16 0 ++ [Value.string
 x_49,
 Value.int
 IntKind.i64
 x_50,
 Value.bool
 x_51,
 Value.bool
 x_52,
 Value.slice
 p
 n
 c,
 Value.string
 x_53])).toArray,
 Value.agg
 (arrI IntKind.u8 f_17 32 0 ++ (arrI IntKind.u8 f_18 16 0 ++ [Value.string
 x_54,
 Value.int
 IntKind.i64
 x_55,
 Value.bool
 x_56,
 Value.bool
 x_57,
 Value.slice
 p_8
 n_12
 c_8,
 Value.string
 x_58])).toArray]
 w'
 fun
 (e :
 Ending)
 (w' :
 World) =>
 ∃
 (x
 :
 Bool),
 e =
 Ending.returned
 (Value.bool
 x) ∧
 S
 w' ∧
 CallsS
 Tryz.prog
 26
 #[Value.agg
 (arrI IntKind.u8 f_19 32 0 ++ (arrI IntKind.u8 f_20 16 0 ++ [Value.string
 x_59,
 Value.int
 IntKind.i64
 x_60,
 Value.bool
 x_61,
 Value.bool
 x_62,
 Value.slice
 p_9
 n_13
 c_9,
 Value.string
 x_63])).toArray]
 w'
 fun
 (e :
 Ending)
 (w' :
 World) =>
 ∃
 (f
 :
 Nat →
 Int),
 ∃
 (f_23
 :
 Nat →
 Int),
 ∃
 (x_69
 :
 ByteArray),
 ∃
 (x_70
 :
 Int),
 ∃
 (x_71
 :
 Bool),
 ∃
 (x_72
 :
 Bool),
 ∃
 (p
 :
 Option
 Addr),
 ∃
 (n
 :
 Nat),
 ∃
 (c
 :
 Nat),
 ∃
 (x_73
 :
 ByteArray),
 e =
 Ending.returned
 (Value.agg
 (arrI IntKind.u8 f 32 0 ++ (arrI IntKind.u8 f_23 16 0 ++ [Value.string
 x_69,
 Value.int
 IntKind.i64
 x_70,
 Value.bool
 x_71,
 Value.bool
 x_72,
 Value.slice
 p
 n
 c,
 Value.string
 x_73])).toArray) ∧
 S
 w' ∧
 CallsS
 Tryz.prog
 26
 #[Value.agg
 (arrI IntKind.u8 f_21 32 0 ++ (arrI IntKind.u8 f_22 16 0 ++ [Value.string
 x_64,
 Value.int
 IntKind.i64
 x_65,
 Value.bool
 x_66,
 Value.bool
 x_67,
 Value.slice
 p_10
 n_14
 c_10,
 Value.string
 x_68])).toArray]
 w'
 fun
 (e :
 Ending)
 (w' :
 World) =>
 ∃
 (f_24
 :
 Nat →
 Int),
 ∃
 (f_25
 :
 Nat →
 Int),
 ∃
 (x_74
 :
 ByteArray),
 ∃
 (x_75
 :
 Int),
 ∃
 (x_76
 :
 Bool),
 ∃
 (x_77
 :
 Bool),
 ∃
 (p_11
 :
 Option
 Addr),
 ∃
 (n_15
 :
 Nat),
 ∃
 (c_11
 :
 Nat),
 ∃
 (x_78
 :
 ByteArray),
 e =
 Ending.returned
 (Value.agg
 (arrI IntKind.u8 f_24 32 0 ++ (arrI IntKind.u8 f_25 16 0 ++ [Value.string
 x_74,
 Value.int
 IntKind.i64
 x_75,
 Value.bool
 x_76,
 Value.bool
 x_77,
 Value.slice
 p_11
 n_15
 c_11,
 Value.string
 x_78])).toArray) ∧
 CallsS
 Tryz.prog
 28
 #[Value.agg
 (arrI IntKind.u8 f 32 0 ++ (arrI IntKind.u8 f_23 16 0 ++ [Value.string
 x_69,
 Value.int
 IntKind.i64
 x_70,
 Value.bool
 x_71,
 Value.bool
 x_72,
 Value.slice
 p
 n
 c,
 Value.string
 x_73])).toArray,
 Value.agg
 (arrI IntKind.u8 f_24 32 0 ++ (arrI IntKind.u8 f_25 16 0 ++ [Value.string
 x_74,
 Value.int
 IntKind.i64
 x_75,
 Value.bool
 x_76,
 Value.bool
 x_77,
 Value.slice
 p_11
 n_15
 c_11,
 Value.string
 x_78])).toArray]
 w'
 fun
 (e :
 Ending)
 (w' :
 World) =>
 ∃
 (x_79
 :
 Bool),
 e =
 Ending.returned
 (Value.bool
 x_79) ∧
 KeptL
 [n_2,
 n_1]
 W
 w' ∧
 R
 (Ending.returned
 (Value.bool
 (true &&
 x ==
 x_79)))
 w')
 (S
 w' ∧
 S
 w' ∧
 KeptL
 [n_2,
 n_1]
 W
 w' ∧
 R
 (Ending.returned
 (Value.bool
 false))
 w'))
 (S
 w' ∧
 S
 w' ∧
 ∃
 (f
 :
 Nat →
 Int),
 ∃
 (f
 :
 Nat →
 Int),
 ∃
 (x
 :
 ByteArray),
 ∃
 (x
 :
 Int),
 ∃
 (x
 :
 Bool),
 ∃
 (x
 :
 Bool),
 ∃
 (p
 :
 Option
 Addr),
 ∃
 (n
 :
 Nat),
 ∃
 (c
 :
 Nat),
 ∃
 (x
 :
 ByteArray),
 True ∧
 ∃
 (f
 :
 Nat →
 Int),
 ∃
 (f
 :
 Nat →
 Int),
 ∃
 (x
 :
 ByteArray),
 ∃
 (x
 :
 Int),
 ∃
 (x
 :
 Bool),
 ∃
 (x
 :
 Bool),
 ∃
 (p
 :
 Option
 Addr),
 ∃
 (n
 :
 Nat),
 ∃
 (c
 :
 Nat),
 ∃
 (x
 :
 ByteArray),
 True ∧
 ∃
 (f
 :
 Nat →
 Int),
 ∃
 (f
 :
 Nat →
 Int),
 ∃
 (x
 :
 ByteArray),
 ∃
 (x
 :
 Int),
 ∃
 (x
 :
 Bool),
 ∃
 (x
 :
 Bool),
 ∃
 (p
 :
 Option
 Addr),
 ∃
 (n
 :
 Nat),
 ∃
 (c
 :
 Nat),
 ∃
 (x
 :
 ByteArray),
 True ∧
 ∃
 (f
 :
 Nat →
 Int),
 ∃
 (f
 :
 Nat →
 Int),
 ∃
 (x
 :
 ByteArray),
 ∃
 (x
 :
 Int),
 ∃
 (x
 :
 Bool),
 ∃
 (x
 :
 Bool),
 ∃
 (p
 :
 Option
 Addr),
 ∃
 (n
 :
 Nat),
 ∃
 (c
 :
 Nat),
 ∃
 (x
 :
 ByteArray),
 True ∧
 S
 w' ∧
 S
 w' ∧
 KeptL
 [n_2,
 n_1]
 W
 w' ∧
 R
 (Ending.returned
 (Value.bool
 false))
 w'))
 (S w' ∧
 S w' ∧
 S w' ∧
 ∃ (f : Nat → Int),
 ∃ (f :
 Nat → Int),
 ∃ (x :
 ByteArray),
 ∃ (x : Int),
 ∃ (x : Bool),
 ∃ (x : Bool),
 ∃ (p :
 Option
 Addr),
 ∃ (n :
 Nat),
 ∃ (c :
 Nat),
 ∃ (x :
 ByteArray),
 True ∧
 ∃ (f :
 Nat →
 Int),
 ∃ (f :
 Nat →
 Int),
 ∃ (x
 :
 ByteArray),
 ∃ (x
 :
 Int),
 ∃
 (x
 :
 Bool),
 ∃
 (x
 :
 Bool),
 ∃
 (p
 :
 Option
 Addr),
 ∃
 (n
 :
 Nat),
 ∃
 (c
 :
 Nat),
 ∃
 (x
 :
 ByteArray),
 True ∧
 S
 w' ∧
 S
 w' ∧
 ∃
 (f
 :
 Nat →
 Int),
 ∃
 (f
 :
 Nat →
 Int),
 ∃
 (x
 :
 ByteArray),
 ∃
 (x
 :
 Int),
 ∃
 (x
 :
 Bool),
 ∃
 (x
 :
 Bool),
 ∃
 (p
 :
 Option
 Addr),
 ∃
 (n
 :
 Nat),
 ∃
 (c
 :
 Nat),
 ∃
 (x
 :
 ByteArray),
 True ∧
 ∃
 (f
 :
 Nat →
 Int),
 ∃
 (f
 :
 Nat →
 Int),
 ∃
 (x
 :
 ByteArray),
 ∃
 (x
 :
 Int),
 ∃
 (x
 :
 Bool),
 ∃
 (x
 :
 Bool),
 ∃
 (p
 :
 Option
 Addr),
 ∃
 (n
 :
 Nat),
 ∃
 (c
 :
 Nat),
 ∃
 (x
 :
 ByteArray),
 True ∧
 ∃
 (f
 :
 Nat →
 Int),
 ∃
 (f
 :
 Nat →
 Int),
 ∃
 (x
 :
 ByteArray),
 ∃
 (x
 :
 Int),
 ∃
 (x
 :
 Bool),
 ∃
 (x
 :
 Bool),
 ∃
 (p
 :
 Option
 Addr),
 ∃
 (n
 :
 Nat),
 ∃
 (c
 :
 Nat),
 ∃
 (x
 :
 ByteArray),
 True ∧
 ∃
 (f
 :
 Nat →
 Int),
 ∃
 (f
 :
 Nat →
 Int),
 ∃
 (x
 :
 ByteArray),
 ∃
 (x
 :
 Int),
 ∃
 (x
 :
 Bool),
 ∃
 (x
 :
 Bool),
 ∃
 (p
 :
 Option
 Addr),
 ∃
 (n
 :
 Nat),
 ∃
 (c
 :
 Nat),
 ∃
 (x
 :
 ByteArray),
 True ∧
 S
 w' ∧
 S
 w' ∧
 KeptL
 [n_2,
 n_1]
 W
 w' ∧
 R
 (Ending.returned
 (Value.bool
 false))
 w')) ∧
 ∀ (n_7 : Nat) (w1 : World),
 NewB w'
 (Obj.cells
 #[Value.int IntKind.u8 0, Value.int IntKind.u8 0,
 Value.int IntKind.u8 0, Value.int IntKind.u8 0,
 Value.int IntKind.u8 0, Value.int IntKind.u8 0,
 Value.int IntKind.u8 0, Value.int IntKind.u8 0,
 Value.int IntKind.u8 0, Value.int IntKind.u8 0,
 Value.int IntKind.u8 0, Value.int IntKind.u8 0,
 Value.int IntKind.u8 0, Value.int IntKind.u8 0,
 Value.int IntKind.u8 0, Value.int IntKind.u8 0,
 Value.int IntKind.u8 0, Value.int IntKind.u8 0,
 Value.int IntKind.u8 0, Value.int IntKind.u8 0,
 Value.int IntKind.u8 0, Value.int IntKind.u8 0,
 Value.int IntKind.u8 0, Value.int IntKind.u8 0,
 Value.int IntKind.u8 0, Value.int IntKind.u8 0,
 Value.int IntKind.u8 0, Value.int IntKind.u8 0,
 Value.int IntKind.u8 0, Value.int IntKind.u8 0,
 Value.int IntKind.u8 0, Value.int IntKind.u8 0,
 Value.int IntKind.u8 0, Value.int IntKind.u8 0,
 Value.int IntKind.u8 0, Value.int IntKind.u8 0,
 Value.int IntKind.u8 0, Value.int IntKind.u8 0,
 Value.int IntKind.u8 0, Value.int IntKind.u8 0,
 Value.int IntKind.u8 0, Value.int IntKind.u8 0,
 Value.int IntKind.u8 0, Value.int IntKind.u8 0,
 Value.int IntKind.u8 0, Value.int IntKind.u8 0,
 Value.int IntKind.u8 0, Value.int IntKind.u8 0,
 Value.string (ByteArray.mk #[]), Value.int IntKind.i64 0,
 Value.bool false, Value.bool false, Value.slice none 0 0,
 Value.string (ByteArray.mk #[])]
 56)
 n_7 w1 →
 S w1 ∧
 CallsS Tryz.prog 23
 #[Value.agg
 (arrI IntKind.u8 f_2 32 0 ++ (arrI IntKind.u8 f_3 16 0 ++ [Value.string x_5, Value.int IntKind.i64 x_6, Value.bool x_7,
 Value.bool x_8, Value.slice p_2 n_4 c_2, Value.string x_9])).toArray]
 w1 fun (e : Ending) (w' : World) =>
 ∃ (f_5 : Nat → Int),
 ∃ (f_6 : Nat → Int),
 ∃ (x_14 : ByteArray),
 ∃ (x_15 : Int),
 ∃ (x_16 : Bool),
 ∃ (x_17 : Bool),
 ∃ (p_4 : Option Addr),
 ∃ (n_8 : Nat),
 ∃ (c_4 : Nat),
 ∃ (x_18 : ByteArray),
 e =
 Ending.returned
 (Value.agg
 (arrI IntKind.u8 f_5 32 0 ++ (arrI IntKind.u8 f_6 16 0 ++ [Value.string x_14,
 Value.int IntKind.i64 x_15, Value.bool x_16,
 Value.bool x_17, Value.slice p_4 n_8 c_4,
 Value.string x_18])).toArray) ∧
 WrL w' n_5 0 54 ∧
 ∀ (w1 : World),
 PutB w' n_5 0
 (arrI IntKind.u8 f 32 0 ++ (arrI IntKind.u8 f_4 16 0 ++ [Value.string x,
 Value.int IntKind.i64 x_10, Value.bool x_11,
 Value.bool x_12, Value.slice p_3 n_6 c_3,
 Value.string x_13]))
 w1 →
 WrL w1 n_7 0 54 ∧
 ∀ (w1_1 : World),
 PutB w1 n_7 0
 (arrI IntKind.u8 f_5 32 0 ++ (arrI IntKind.u8 f_6 16 0 ++ [Value.string x_14,
 Value.int IntKind.i64 x_15, Value.bool x_16,
 Value.bool x_17, Value.slice p_4 n_8 c_4,
 Value.string x_18]))
 w1_1 →
 KeptL [n_2, n_1] W w1_1 ∧
 ∀ (W : World),
 Loc w.heap.size
 [Blk.mk n_2 50
 (arrI IntKind.u8 id2 32 0 ++ (arrI IntKind.u8 au2 16 0 ++ [Value.string g2, Value.int IntKind.i64 v2,
 Value.bool rm2, Value.bool md2,
 Value.slice p2 n2 c2, Value.string t2]))
 0,
 Blk.mk n_1 50
 (arrI IntKind.u8 id 32 0 ++ (arrI IntKind.u8 au 16 0 ++ [Value.string g,
 Value.int IntKind.i64 v, Value.bool rm,
 Value.bool md, Value.slice p n c,
 Value.string t]))
 0]
 w1_1 W →
 ∃ (S : World → Prop),
 S W ∧
 CallsS Tryz.prog 15 #[] W
 fun (e : Ending) (w' : World) =>
 ∃ (x : Bool),
 e = Ending.returned (Value.bool x) ∧
 S w' ∧
 ∃ (f : Nat → Int),
 ∃ (f_7 : Nat → Int),
 ∃ (x_19 : ByteArray),
 ∃ (x_20 : Int),
 ∃ (x_21 : Bool),
 ∃ (x_22 : Bool),
 ∃ (p : Option Addr),
 ∃ (n : Nat),
 ∃ (c : Nat),
 ∃ (x_23 : ByteArray),
 gimp x
 (∀ (w' : World),
 S w' →
 AtL w' n_5 0
 (arrI IntKind.u8 f 32 0 ++ (arrI IntKind.u8 f_7 16 0 ++ [Value.string x_19,
 Value.int IntKind.i64 x_20,
 Value.bool x_21,
 Value.bool x_22,
 Value.slice p n c,
 Value.string x_23]))) ∧
 ∃ (f_8 : Nat → Int),
 ∃ (f_9 : Nat → Int),
 ∃ (x_24 : ByteArray),
 ∃ (x_25 : Int),
 ∃ (x_26 : Bool),
 ∃ (x_27 : Bool),
 ∃ (p_5 : Option Addr),
 ∃ (n_9 : Nat),
 ∃ (c_5 : Nat),
 ∃ (x_28 : ByteArray),
 gimp x
 (∀ (w' : World),
 S w' →
 AtL w' n_5 0
 (arrI IntKind.u8 f_8 32 0 ++ (arrI IntKind.u8 f_9 16 0 ++ [Value.string
 x_24,
 Value.int
 IntKind.i64
 x_25,
 Value.bool x_26,
 Value.bool x_27,
 Value.slice p_5
 n_9 c_5,
 Value.string
 x_28]))) ∧
 bsp x
 (CallsS Tryz.prog 24
 #[Value.agg
 (arrI IntKind.u8 f 32 0 ++ (arrI IntKind.u8 f_7 16 0 ++ [Value.string
 x_19,
 Value.int
 IntKind.i64
 x_20,
 Value.bool x_21,
 Value.bool x_22,
 Value.slice p n
 c,
 Value.string
 x_23])).toArray]
 w'
 fun (e : Ending)
 (w' : World) =>
 ∃ (x : Int),
 e =
 Ending.returned
 (Value.int
 IntKind.i64
 x) ∧
 S w' ∧
 CallsS Tryz.prog
 26
 #[Value.agg
 (arrI IntKind.u8 f_8 32 0 ++ (arrI IntKind.u8 f_9 16 0 ++ [Value.string
 x_24,
 Value.int
 IntKind.i64
 x_25,
 Value.bool
 x_26,
 Value.bool
 x_27,
 Value.slice
 p_5 n_9 c_5,
 Value.string
 x_28])).toArray]
 w'
 fun (e : Ending)
 (w' : World) =>
 ∃ (f :
 Nat → Int),
 ∃ (f_10 :
 Nat → Int),
 ∃ (x_29 :
 ByteArray),
 ∃ (x_30 :
 Int),
 ∃ (x_31 :
 Bool),
 ∃ (x_32 :
 Bool),
 ∃ (p :
 Option
 Addr),
 ∃ (n :
 Nat),
 ∃ (c :
 Nat),
 ∃ (x_33
 :
 ByteArray),
 e =
 Ending.returned
 (Value.agg
 (arrI IntKind.u8 f 32 0 ++ (arrI IntKind.u8 f_10 16 0 ++ [Value.string
 x_29,
 Value.int
 IntKind.i64
 x_30,
 Value.bool
 x_31,
 Value.bool
 x_32,
 Value.slice
 p
 n
 c,
 Value.string
 x_33])).toArray) ∧
 S
 w' ∧
 CallsS
 Tryz.prog
 25
 #[Value.agg
 (arrI IntKind.u8 f 32 0 ++ (arrI IntKind.u8 f_10 16 0 ++ [Value.string
 x_29,
 Value.int
 IntKind.i64
 x_30,
 Value.bool
 x_31,
 Value.bool
 x_32,
 Value.slice
 p
 n
 c,
 Value.string
 x_33])).toArray]
 w'
 fun
 (e :
 Ending)
 (w' :
 World) =>
 ∃
 (x_34
 :
 Int),
 e =
 Ending.returned
 (Value.int
 IntKind.i64
 x_34) ∧
 S
 w' ∧
 ∃
 (f
 :
 Nat →
 Int),
 ∃
 (f_11
 :
 Nat →
 Int),
 ∃
 (x_35
 :
 ByteArray),
 ∃
 (x_36
 :
 Int),
 ∃
 (x_37
 :
 Bool),
 ∃
 (x_38
 :
 Bool),
 ∃
 (p
 :
 Option
 Addr),
 ∃
 (n
 :
 Nat),
 ∃
 (c
 :
 Nat),
 ∃
 (x_39
 :
 ByteArray),
 gimp
 (true &&
 x ==
 x_34)
 (∀
 (w' :
 World),
 S
 w' →
 AtL
 w'
 n_5
 0
 (arrI IntKind.u8 f 32 0 ++ (arrI IntKind.u8 f_11 16 0 ++ [Value.string
 x_35,
 Value.int
 IntKind.i64
 x_36,
 Value.bool
 x_37,
 Value.bool
 x_38,
 Value.slice
 p
 n
 c,
 Value.string
 x_39]))) ∧
 ∃
 (f_12
 :
 Nat →
 Int),
 ∃
 (f_13
 :
 Nat →
 Int),
 ∃
 (x_40
 :
 ByteArray),
 ∃
 (x_41
 :
 Int),
 ∃
 (x_42
 :
 Bool),
 ∃
 (x_43
 :
 Bool),
 ∃
 (p_6
 :
 Option
 Addr),
 ∃
 (n_10
 :
 Nat),
 ∃
 (c_6
 :
 Nat),
 ∃
 (x_44
 :
 ByteArray),
 gimp
 (true &&
 x ==
 x_34)
 (∀
 (w' :
 World),
 S
 w' →
 AtL
 w'
 n_1
 0
 (arrI IntKind.u8 f_12 32 0 ++ (arrI IntKind.u8 f_13 16 0 ++ [Value.string
 x_40,
 Value.int
 IntKind.i64
 x_41,
 Value.bool
 x_42,
 Value.bool
 x_43,
 Value.slice
 p_6
 n_10
 c_6,
 Value.string
 x_44]))) ∧
 bsp
 (true &&
 x ==
 x_34)
 (CallsS
 Tryz.prog
 23
 #[Value.agg
 (arrI IntKind.u8 f_12 32 0 ++ (arrI IntKind.u8 f_13 16 0 ++ [Value.string
 x_40,
 Value.int
 IntKind.i64
 x_41,
 Value.bool
 x_42,
 Value.bool
 x_43,
 Value.slice
 p_6
 n_10
 c_6,
 Value.string
 x_44])).toArray]
 w'
 fun
 (e :
 Ending)
 (w' :
 World) =>
 ∃
 (f_14
 :
 Nat →
 Int),
 ∃
 (f_15
 :
 Nat →
 Int),
 ∃
 (x
 :
 ByteArray),
 ∃
 (x_45
 :
 Int),
 ∃
 (x_46
 :
 Bool),
 ∃
 (x_47
 :
 Bool),
 ∃
 (p_7
 :
 Option
 Addr),
 ∃
 (n_11
 :
 Nat),
 ∃
 (c_7
 :
 Nat),
 ∃
 (x_48
 :
 ByteArray),
 e =
 Ending.returned
 (Value.agg
 (arrI IntKind.u8 f_14 32 0 ++ (arrI IntKind.u8 f_15 16 0 ++ [Value.string
 x,
 Value.int
 IntKind.i64
 x_45,
 Value.bool
 x_46,
 Value.bool
 x_47,
 Value.slice
 p_7
 n_11
 c_7,
 Value.string
 x_48])).toArray) ∧
 S
 w' ∧
 CallsS
 Tryz.prog
 27
 #[Value.agg
 (arrI IntKind.u8 f 32 0 ++ (arrI IntKind.u8 f_11 16 0 ++ [Value.string
 x_35,
 Value.int
 IntKind.i64
 x_36,
 Value.bool
 x_37,
 Value.bool
 x_38,
 Value.slice
 p
 n
 c,
 Value.string
 x_39])).toArray,
 Value.agg
 (arrI IntKind.u8 f_14 32 0 ++ (arrI IntKind.u8 f_15 16 0 ++ [Value.string
 x,
 Value.int
 IntKind.i64
 x_45,
 Value.bool
 x_46,
 Value.bool
 x_47,
 Value.slice
 p_7
 n_11
 c_7,
 Value.string
 x_48])).toArray]
 w'
 fun
 (e :
 Ending)
 (w' :
 World) =>
 ∃
 (x
 :
 Bool),
 e =
 Ending.returned
 (Value.bool
 x) ∧
 S
 w' ∧
 ∃
 (f
 :
 Nat →
 Int),
 ∃
 (f_16
 :
 Nat →
 Int),
 ∃
 (x_49
 :
 ByteArray),
 ∃
 (x_50
 :
 Int),
 ∃
 (x_51
 :
 Bool),
 ∃
 (x_52
 :
 Bool),
 ∃
 (p
 :
 Option
 Addr),
 ∃
 (n
 :
 Nat),
 ∃
 (c
 :
 Nat),
 ∃
 (x_53
 :
 ByteArray),
 gimp
 (true &&
 x)
 (∀
 (w' :
 World),
 S
 w' →
 AtL
 w'
 n_5
 0
 (arrI IntKind.u8 f 32 0 ++ (arrI IntKind.u8 f_16 16 0 ++ [Value.string
 x_49,
 Value.int
 IntKind.i64
 x_50,
 Value.bool
 x_51,
 Value.bool
 x_52,
 Value.slice
 p
 n
 c,
 Value.string
 x_53]))) ∧
 ∃
 (f_17
 :
 Nat →
 Int),
 ∃
 (f_18
 :
 Nat →
 Int),
 ∃
 (x_54
 :
 ByteArray),
 ∃
 (x_55
 :
 Int),
 ∃
 (x_56
 :
 Bool),
 ∃
 (x_57
 :
 Bool),
 ∃
 (p_8
 :
 Option
 Addr),
 ∃
 (n_12
 :
 Nat),
 ∃
 (c_8
 :
 Nat),
 ∃
 (x_58
 :
 ByteArray),
 gimp
 (true &&
 x)
 (∀
 (w' :
 World),
 S
 w' →
 AtL
 w'
 n_7
 0
 (arrI IntKind.u8 f_17 32 0 ++ (arrI IntKind.u8 f_18 16 0 ++ [Value.string
 x_54,
 Value.int
 IntKind.i64
 x_55,
 Value.bool
 x_56,
 Value.bool
 x_57,
 Value.slice
 p_8
 n_12
 c_8,
 Value.string
 x_58]))) ∧
 ∃
 (f_19
 :
 Nat →
 Int),
 ∃
 (f_20
 :
 Nat →
 Int),
 ∃
 (x_59
 :
 ByteArray),
 ∃
 (x_60
 :
 Int),
 ∃
 (x_61
 :
 Bool),
 ∃
 (x_62
 :
 Bool),
 ∃
 (p_9
 :
 Option
 Addr),
 ∃
 (n_13
 :
 Nat),
 ∃
 (c_9
 :
 Nat),
 ∃
 (x_63
 :
 ByteArray),
 gimp
 (true &&
 x)
 (∀
 (w' :
 World),
 S
 w' →
 AtL
 w'
 n_5
 0
 (arrI IntKind.u8 f_19 32 0 ++ (arrI IntKind.u8 f_20 16 0 ++ [Value.string
 x_59,
 Value.int
 IntKind.i64
 x_60,
 Value.bool
 x_61,
 Value.bool
 x_62,
 Value.slice
 p_9
 n_13
 c_9,
 Value.string
 x_63]))) ∧
 ∃
 (f_21
 :
 Nat →
 Int),
 ∃
 (f_22
 :
 Nat →
 Int),
 ∃
 (x_64
 :
 ByteArray),
 ∃
 (x_65
 :
 Int),
 ∃
 (x_66
 :
 Bool),
 ∃
 (x_67
 :
 Bool),
 ∃
 (p_10
 :
 Option
 Addr),
 ∃
 (n_14
 :
 Nat),
 ∃
 (c_10
 :
 Nat),
 ∃
 (x_68
 :
 ByteArray),
 gimp
 (true &&
 x)
 (∀
 (w' :
 World),
 S
 w' →
 AtL
 w'
 n_7
 0
 (arrI IntKind.u8 f_21 32 0 ++ (arrI IntKind.u8 f_22 16 0 ++ [Value.string
 x_64,
 Value.int
 IntKind.i64
 x_65,
 Value.bool
 x_66,
 Value.bool
 x_67,
 Value.slice
 p_10
 n_14
 c_10,
 Value.string
 x_68]))) ∧
 bsp
 (true &&
 x)
 (CallsS
 Tryz.prog
 27
 #[Value.agg
 (arrI IntKind.u8 f 32 0 ++ (arrI IntKind.u8 f_16 16 0 ++ [Value.string
 x_49,
 Value.int
 IntKind.i64
 x_50,
 Value.bool
 x_51,
 Value.bool
 x_52,
 Value.slice
 p
 n
 c,
 Value.string
 x_53])).toArray,
 Value.agg
 (arrI IntKind.u8 f_17 32 0 ++ (arrI IntKind.u8 f_18 16 0 ++ [Value.string
 x_54,
 Value.int
 IntKind.i64
 x_55,
 Value.bool
 x_56,
 Value.bool
 x_57,
 Value.slice
 p_8
 n_12
 c_8,
 Value.string
 x_58])).toArray]
 w'
 fun
 (e :
 Ending)
 (w' :
 World) =>
 ∃
 (x
 :
 Bool),
 e =
 Ending.returned
 (Value.bool
 x) ∧
 S
 w' ∧
 CallsS
 Tryz.prog
 26
 #[Value.agg
 (arrI IntKind.u8 f_19 32 0 ++ (arrI IntKind.u8 f_20 16 0 ++ [Value.string
 x_59,
 Value.int
 IntKind.i64
 x_60,
 Value.bool
 x_61,
 Value.bool
 x_62,
 Value.slice
 p_9
 n_13
 c_9,
 Value.string
 x_63])).toArray]
 w'
 fun
 (e :
 Ending)
 (w' :
 World) =>
 ∃
 (f
 :
 Nat →
 Int),
 ∃
 (f_23
 :
 Nat →
 Int),
 ∃
 (x_69
 :
 ByteArray),
 ∃
 (x_70
 :
 Int),
 ∃
 (x_71
 :
 Bool),
 ∃
 (x_72
 :
 Bool),
 ∃
 (p
 :
 Option
 Addr),
 ∃
 (n
 :
 Nat),
 ∃
 (c
 :
 Nat),
 ∃
 (x_73
 :
 ByteArray),
 e =
 Ending.returned
 (Value.agg
 (arrI IntKind.u8 f 32 0 ++ (arrI IntKind.u8 f_23 16 0 ++ [Value.string
 x_69,
 Value.int
 IntKind.i64
 x_70,
 Value.bool
 x_71,
 Value.bool
 x_72,
 Value.slice
 p
 n
 c,
 Value.string
 x_73])).toArray) ∧
 S
 w' ∧
 CallsS
 Tryz.prog
 26
 #[Value.agg
 (arrI IntKind.u8 f_21 32 0 ++ (arrI IntKind.u8 f_22 16 0 ++ [Value.string
 x_64,
 Value.int
 IntKind.i64
 x_65,
 Value.bool
 x_66,
 Value.bool
 x_67,
 Value.slice
 p_10
 n_14
 c_10,
 Value.string
 x_68])).toArray]
 w'
 fun
 (e :
 Ending)
 (w' :
 World) =>
 ∃
 (f_24
 :
 Nat →
 Int),
 ∃
 (f_25
 :
 Nat →
 Int),
 ∃
 (x_74
 :
 ByteArray),
 ∃
 (x_75
 :
 Int),
 ∃
 (x_76
 :
 Bool),
 ∃
 (x_77
 :
 Bool),
 ∃
 (p_11
 :
 Option
 Addr),
 ∃
 (n_15
 :
 Nat),
 ∃
 (c_11
 :
 Nat),
 ∃
 (x_78
 :
 ByteArray),
 e =
 Ending.returned
 (Value.agg
 (arrI IntKind.u8 f_24 32 0 ++ (arrI IntKind.u8 f_25 16 0 ++ [Value.string
 x_74,
 Value.int
 IntKind.i64
 x_75,
 Value.bool
 x_76,
 Value.bool
 x_77,
 Value.slice
 p_11
 n_15
 c_11,
 Value.string
 x_78])).toArray) ∧
 CallsS
 Tryz.prog
 28
 #[Value.agg
 (arrI IntKind.u8 f 32 0 ++ (arrI IntKind.u8 f_23 16 0 ++ [Value.string
 x_69,
 Value.int
 IntKind.i64
 x_70,
 Value.bool
 x_71,
 Value.bool
 x_72,
 Value.slice
 p
 n
 c,
 Value.string
 x_73])).toArray,
 Value.agg
 (arrI IntKind.u8 f_24 32 0 ++ (arrI IntKind.u8 f_25 16 0 ++ [Value.string
 x_74,
 Value.int
 IntKind.i64
 x_75,
 Value.bool
 x_76,
 Value.bool
 x_77,
 Value.slice
 p_11
 n_15
 c_11,
 Value.string
 x_78])).toArray]
 w'
 fun
 (e :
 Ending)
 (w' :
 World) =>
 ∃
 (x_79
 :
 Bool),
 e =
 Ending.returned
 (Value.bool
 x_79) ∧
 KeptL
 [n_2,
 n_1]
 W
 w' ∧
 R
 (Ending.returned
 (Value.bool
 (true &&
 x ==
 x_79)))
 w')
 (S
 w' ∧
 S
 w' ∧
 KeptL
 [n_2,
 n_1]
 W
 w' ∧
 R
 (Ending.returned
 (Value.bool
 false))
 w'))
 (S
 w' ∧
 S
 w' ∧
 ∃
 (f
 :
 Nat →
 Int),
 ∃
 (f
 :
 Nat →
 Int),
 ∃
 (x
 :
 ByteArray),
 ∃
 (x
 :
 Int),
 ∃
 (x
 :
 Bool),
 ∃
 (x
 :
 Bool),
 ∃
 (p
 :
 Option
 Addr),
 ∃
 (n
 :
 Nat),
 ∃
 (c
 :
 Nat),
 ∃
 (x
 :
 ByteArray),
 True ∧
 ∃
 (f
 :
 Nat →
 Int),
 ∃
 (f
 :
 Nat →
 Int),
 ∃
 (x
 :
 ByteArray),
 ∃
 (x
 :
 Int),
 ∃
 (x
 :
 Bool),
 ∃
 (x
 :
 Bool),
 ∃
 (p
 :
 Option
 Addr),
 ∃
 (n
 :
 Nat),
 ∃
 (c
 :
 Nat),
 ∃
 (x
 :
 ByteArray),
 True ∧
 ∃
 (f
 :
 Nat →
 Int),
 ∃
 (f
 :
 Nat →
 Int),
 ∃
 (x
 :
 ByteArray),
 ∃
 (x
 :
 Int),
 ∃
 (x
 :
 Bool),
 ∃
 (x
 :
 Bool),
 ∃
 (p
 :
 Option
 Addr),
 ∃
 (n
 :
 Nat),
 ∃
 (c
 :
 Nat),
 ∃
 (x
 :
 ByteArray),
 True ∧
 ∃
 (f
 :
 Nat →
 Int),
 ∃
 (f
 :
 Nat →
 Int),
 ∃
 (x
 :
 ByteArray),
 ∃
 (x
 :
 Int),
 ∃
 (x
 :
 Bool),
 ∃
 (x
 :
 Bool),
 ∃
 (p
 :
 Option
 Addr),
 ∃
 (n
 :
 Nat),
 ∃
 (c
 :
 Nat),
 ∃
 (x
 :
 ByteArray),
 True ∧
 S
 w' ∧
 S
 w' ∧
 KeptL
 [n_2,
 n_1]
 W
 w' ∧
 R
 (Ending.returned
 (Value.bool
 false))
 w'))
 (S w' ∧
 S w' ∧
 S w' ∧
 ∃ (f : Nat → Int),
 ∃ (f :
 Nat → Int),
 ∃ (x :
 ByteArray),
 ∃ (x : Int),
 ∃ (x : Bool),
 ∃ (x : Bool),
 ∃ (p :
 Option
 Addr),
 ∃ (n :
 Nat),
 ∃ (c :
 Nat),
 ∃ (x :
 ByteArray),
 True ∧
 ∃ (f :
 Nat →
 Int),
 ∃ (f :
 Nat →
 Int),
 ∃ (x
 :
 ByteArray),
 ∃ (x
 :
 Int),
 ∃
 (x
 :
 Bool),
 ∃
 (x
 :
 Bool),
 ∃
 (p
 :
 Option
 Addr),
 ∃
 (n
 :
 Nat),
 ∃
 (c
 :
 Nat),
 ∃
 (x
 :
 ByteArray),
 True ∧
 S
 w' ∧
 S
 w' ∧
 ∃
 (f
 :
 Nat →
 Int),
 ∃
 (f
 :
 Nat →
 Int),
 ∃
 (x
 :
 ByteArray),
 ∃
 (x
 :
 Int),
 ∃
 (x
 :
 Bool),
 ∃
 (x
 :
 Bool),
 ∃
 (p
 :
 Option
 Addr),
 ∃
 (n
 :
 Nat),
 ∃
 (c
 :
 Nat),
 ∃
 (x
 :
 ByteArray),
 True ∧
 ∃
 (f
 :
 Nat →
 Int),
 ∃
 (f
 :
 Nat →
 Int),
 ∃
 (x
 :
 ByteArray),
 ∃
 (x
 :
 Int),
 ∃
 (x
 :
 Bool),
 ∃
 (x
 :
 Bool),
 ∃
 (p
 :
 Option
 Addr),
 ∃
 (n
 :
 Nat),
 ∃
 (c
 :
 Nat),
 ∃
 (x
 :
 ByteArray),
 True ∧
 ∃
 (f
 :
 Nat →
 Int),
 ∃
 (f
 :
 Nat →
 Int),
 ∃
 (x
 :
 ByteArray),
 ∃
 (x
 :
 Int),
 ∃
 (x
 :
 Bool),
 ∃
 (x
 :
 Bool),
 ∃
 (p
 :
 Option
 Addr),
 ∃
 (n
 :
 Nat),
 ∃
 (c
 :
 Nat),
 ∃
 (x
 :
 ByteArray),
 True ∧
 ∃
 (f
 :
 Nat →
 Int),
 ∃
 (f
 :
 Nat →
 Int),
 ∃
 (x
 :
 ByteArray),
 ∃
 (x
 :
 Int),
 ∃
 (x
 :
 Bool),
 ∃
 (x
 :
 Bool),
 ∃
 (p
 :
 Option
 Addr),
 ∃
 (n
 :
 Nat),
 ∃
 (c
 :
 Nat),
 ∃
 (x
 :
 ByteArray),
 True ∧
 S
 w' ∧
 S
 w' ∧
 KeptL
 [n_2,
 n_1]
 W
 w' ∧
 R
 (Ending.returned
 (Value.bool
 false))
 w')) ∧
 ∀ (n_6 : Nat) (w1_1 : World),
 NewB w1
 (Obj.cells
 #[Value.int IntKind.u8 0, Value.int IntKind.u8 0, Value.int IntKind.u8 0,
 Value.int IntKind.u8 0, Value.int IntKind.u8 0, Value.int IntKind.u8 0,
 Value.int IntKind.u8 0, Value.int IntKind.u8 0, Value.int IntKind.u8 0,
 Value.int IntKind.u8 0, Value.int IntKind.u8 0, Value.int IntKind.u8 0,
 Value.int IntKind.u8 0, Value.int IntKind.u8 0, Value.int IntKind.u8 0,
 Value.int IntKind.u8 0, Value.int IntKind.u8 0, Value.int IntKind.u8 0,
 Value.int IntKind.u8 0, Value.int IntKind.u8 0, Value.int IntKind.u8 0,
 Value.int IntKind.u8 0, Value.int IntKind.u8 0, Value.int IntKind.u8 0,
 Value.int IntKind.u8 0, Value.int IntKind.u8 0, Value.int IntKind.u8 0,
 Value.int IntKind.u8 0, Value.int IntKind.u8 0, Value.int IntKind.u8 0,
 Value.int IntKind.u8 0, Value.int IntKind.u8 0, Value.int IntKind.u8 0,
 Value.int IntKind.u8 0, Value.int IntKind.u8 0, Value.int IntKind.u8 0,
 Value.int IntKind.u8 0, Value.int IntKind.u8 0, Value.int IntKind.u8 0,
 Value.int IntKind.u8 0, Value.int IntKind.u8 0, Value.int IntKind.u8 0,
 Value.int IntKind.u8 0, Value.int IntKind.u8 0, Value.int IntKind.u8 0,
 Value.int IntKind.u8 0, Value.int IntKind.u8 0, Value.int IntKind.u8 0,
 Value.string (ByteArray.mk #[]), Value.int IntKind.i64 0, Value.bool false,
 Value.bool false, Value.slice none 0 0, Value.string (ByteArray.mk #[])]
 56)
 n_6 w1_1 →
 S w1_1 ∧
 CallsS Tryz.prog 23
 #[Value.agg
 (arrI IntKind.u8 f 32 0 ++ (arrI IntKind.u8 f_1 16 0 ++ [Value.string x,
 Value.int IntKind.i64 x_1, Value.bool x_2, Value.bool x_3,
 Value.slice p_1 n_3 c_1, Value.string x_4])).toArray]
 w1_1 fun (e : Ending) (w' : World) =>
 ∃ (f : Nat → Int),
 ∃ (f_4 : Nat → Int),
 ∃ (x : ByteArray),
 ∃ (x_10 : Int),
 ∃ (x_11 : Bool),
 ∃ (x_12 : Bool),
 ∃ (p_3 : Option Addr),
 ∃ (n_7 : Nat),
 ∃ (c_3 : Nat),
 ∃ (x_13 : ByteArray),
 e =
 Ending.returned
 (Value.agg
 (arrI IntKind.u8 f 32 0 ++ (arrI IntKind.u8 f_4 16 0 ++ [Value.string x, Value.int IntKind.i64 x_10, Value.bool x_11,
 Value.bool x_12, Value.slice p_3 n_7 c_3, Value.string x_13])).toArray) ∧
 S w' ∧
 CallsS Tryz.prog 23
 #[Value.agg
 (arrI IntKind.u8 f_2 32 0 ++ (arrI IntKind.u8 f_3 16 0 ++ [Value.string x_5, Value.int IntKind.i64 x_6, Value.bool x_7,
 Value.bool x_8, Value.slice p_2 n_4 c_2, Value.string x_9])).toArray]
 w' fun (e : Ending) (w' : World) =>
 ∃ (f_5 : Nat → Int),
 ∃ (f_6 : Nat → Int),
 ∃ (x_14 : ByteArray),
 ∃ (x_15 : Int),
 ∃ (x_16 : Bool),
 ∃ (x_17 : Bool),
 ∃ (p_4 : Option Addr),
 ∃ (n_8 : Nat),
 ∃ (c_4 : Nat),
 ∃ (x_18 : ByteArray),
 e =
 Ending.returned
 (Value.agg
 (arrI IntKind.u8 f_5 32 0 ++ (arrI IntKind.u8 f_6 16 0 ++ [Value.string x_14,
 Value.int IntKind.i64 x_15, Value.bool x_16,
 Value.bool x_17, Value.slice p_4 n_8 c_4,
 Value.string x_18])).toArray) ∧
 WrL w' n_5 0 54 ∧
 ∀ (w1 : World),
 PutB w' n_5 0
 (arrI IntKind.u8 f 32 0 ++ (arrI IntKind.u8 f_4 16 0 ++ [Value.string x,
 Value.int IntKind.i64 x_10, Value.bool x_11,
 Value.bool x_12, Value.slice p_3 n_7 c_3,
 Value.string x_13]))
 w1 →
 WrL w1 n_6 0 54 ∧
 ∀ (w1_2 : World),
 PutB w1 n_6 0
 (arrI IntKind.u8 f_5 32 0 ++ (arrI IntKind.u8 f_6 16 0 ++ [Value.string x_14,
 Value.int IntKind.i64 x_15, Value.bool x_16,
 Value.bool x_17, Value.slice p_4 n_8 c_4,
 Value.string x_18]))
 w1_2 →
 KeptL [n_2, n_1] W w1_2 ∧
 ∀ (W : World),
 Loc w.heap.size
 [Blk.mk n_2 50
 (arrI IntKind.u8 id2 32 0 ++ (arrI IntKind.u8 au2 16 0 ++ [Value.string g2,
 Value.int IntKind.i64 v2, Value.bool rm2,
 Value.bool md2, Value.slice p2 n2 c2,
 Value.string t2]))
 0,
 Blk.mk n_1 50
 (arrI IntKind.u8 id 32 0 ++ (arrI IntKind.u8 au 16 0 ++ [Value.string g,
 Value.int IntKind.i64 v, Value.bool rm,
 Value.bool md, Value.slice p n c,
 Value.string t]))
 0]
 w1_2 W →
 ∃ (S : World → Prop),
 S W ∧
 CallsS Tryz.prog 15 #[] W
 fun (e : Ending) (w' : World) =>
 ∃ (x : Bool),
 e = Ending.returned (Value.bool x) ∧
 S w' ∧
 ∃ (f : Nat → Int),
 ∃ (f_7 : Nat → Int),
 ∃ (x_19 : ByteArray),
 ∃ (x_20 : Int),
 ∃ (x_21 : Bool),
 ∃ (x_22 : Bool),
 ∃ (p : Option Addr),
 ∃ (n : Nat),
 ∃ (c : Nat),
 ∃ (x_23 : ByteArray),
 gimp x
 (∀ (w' : World),
 S w' →
 AtL w' n_5 0
 (arrI IntKind.u8 f 32 0 ++ (arrI IntKind.u8 f_7 16 0 ++ [Value.string x_19,
 Value.int IntKind.i64 x_20,
 Value.bool x_21,
 Value.bool x_22,
 Value.slice p n c,
 Value.string x_23]))) ∧
 ∃ (f_8 : Nat → Int),
 ∃ (f_9 : Nat → Int),
 ∃ (x_24 : ByteArray),
 ∃ (x_25 : Int),
 ∃ (x_26 : Bool),
 ∃ (x_27 : Bool),
 ∃ (p_5 : Option Addr),
 ∃ (n_9 : Nat),
 ∃ (c_5 : Nat),
 ∃ (x_28 : ByteArray),
 gimp x
 (∀ (w' : World),
 S w' →
 AtL w' n_5 0
 (arrI IntKind.u8 f_8 32 0 ++ (arrI IntKind.u8 f_9 16 0 ++ [Value.string x_24,
 Value.int
 IntKind.i64 x_25,
 Value.bool x_26,
 Value.bool x_27,
 Value.slice p_5
 n_9 c_5,
 Value.string
 x_28]))) ∧
 bsp x
 (CallsS Tryz.prog 24
 #[Value.agg
 (arrI IntKind.u8 f 32 0 ++ (arrI IntKind.u8 f_7 16 0 ++ [Value.string x_19,
 Value.int
 IntKind.i64 x_20,
 Value.bool x_21,
 Value.bool x_22,
 Value.slice p n c,
 Value.string
 x_23])).toArray]
 w'
 fun (e : Ending)
 (w' : World) =>
 ∃ (x : Int),
 e =
 Ending.returned
 (Value.int
 IntKind.i64 x) ∧
 S w' ∧
 CallsS Tryz.prog
 26
 #[Value.agg
 (arrI IntKind.u8 f_8 32 0 ++ (arrI IntKind.u8 f_9 16 0 ++ [Value.string
 x_24,
 Value.int
 IntKind.i64
 x_25,
 Value.bool
 x_26,
 Value.bool
 x_27,
 Value.slice
 p_5 n_9 c_5,
 Value.string
 x_28])).toArray]
 w'
 fun (e : Ending)
 (w' : World) =>
 ∃ (f :
 Nat → Int),
 ∃ (f_10 :
 Nat → Int),
 ∃ (x_29 :
 ByteArray),
 ∃ (x_30 :
 Int),
 ∃ (x_31 :
 Bool),
 ∃ (x_32 :
 Bool),
 ∃ (p :
 Option
 Addr),
 ∃ (n :
 Nat),
 ∃ (c :
 Nat),
 ∃ (x_33
 :
 ByteArray),
 e =
 Ending.returned
 (Value.agg
 (arrI IntKind.u8 f 32 0 ++ (arrI IntKind.u8 f_10 16 0 ++ [Value.string
 x_29,
 Value.int
 IntKind.i64
 x_30,
 Value.bool
 x_31,
 Value.bool
 x_32,
 Value.slice
 p
 n
 c,
 Value.string
 x_33])).toArray) ∧
 S w' ∧
 CallsS
 Tryz.prog
 25
 #[Value.agg
 (arrI IntKind.u8 f 32 0 ++ (arrI IntKind.u8 f_10 16 0 ++ [Value.string
 x_29,
 Value.int
 IntKind.i64
 x_30,
 Value.bool
 x_31,
 Value.bool
 x_32,
 Value.slice
 p
 n
 c,
 Value.string
 x_33])).toArray]
 w'
 fun
 (e :
 Ending)
 (w' :
 World) =>
 ∃
 (x_34
 :
 Int),
 e =
 Ending.returned
 (Value.int
 IntKind.i64
 x_34) ∧
 S
 w' ∧
 ∃
 (f
 :
 Nat →
 Int),
 ∃
 (f_11
 :
 Nat →
 Int),
 ∃
 (x_35
 :
 ByteArray),
 ∃
 (x_36
 :
 Int),
 ∃
 (x_37
 :
 Bool),
 ∃
 (x_38
 :
 Bool),
 ∃
 (p
 :
 Option
 Addr),
 ∃
 (n
 :
 Nat),
 ∃
 (c
 :
 Nat),
 ∃
 (x_39
 :
 ByteArray),
 gimp
 (true &&
 x ==
 x_34)
 (∀
 (w' :
 World),
 S
 w' →
 AtL
 w'
 n_5
 0
 (arrI IntKind.u8 f 32 0 ++ (arrI IntKind.u8 f_11 16 0 ++ [Value.string
 x_35,
 Value.int
 IntKind.i64
 x_36,
 Value.bool
 x_37,
 Value.bool
 x_38,
 Value.slice
 p
 n
 c,
 Value.string
 x_39]))) ∧
 ∃
 (f_12
 :
 Nat →
 Int),
 ∃
 (f_13
 :
 Nat →
 Int),
 ∃
 (x_40
 :
 ByteArray),
 ∃
 (x_41
 :
 Int),
 ∃
 (x_42
 :
 Bool),
 ∃
 (x_43
 :
 Bool),
 ∃
 (p_6
 :
 Option
 Addr),
 ∃
 (n_10
 :
 Nat),
 ∃
 (c_6
 :
 Nat),
 ∃
 (x_44
 :
 ByteArray),
 gimp
 (true &&
 x ==
 x_34)
 (∀
 (w' :
 World),
 S
 w' →
 AtL
 w'
 n_1
 0
 (arrI IntKind.u8 f_12 32 0 ++ (arrI IntKind.u8 f_13 16 0 ++ [Value.string
 x_40,
 Value.int
 IntKind.i64
 x_41,
 Value.bool
 x_42,
 Value.bool
 x_43,
 Value.slice
 p_6
 n_10
 c_6,
 Value.string
 x_44]))) ∧
 bsp
 (true &&
 x ==
 x_34)
 (CallsS
 Tryz.prog
 23
 #[Value.agg
 (arrI IntKind.u8 f_12 32 0 ++ (arrI IntKind.u8 f_13 16 0 ++ [Value.string
 x_40,
 Value.int
 IntKind.i64
 x_41,
 Value.bool
 x_42,
 Value.bool
 x_43,
 Value.slice
 p_6
 n_10
 c_6,
 Value.string
 x_44])).toArray]
 w'
 fun
 (e :
 Ending)
 (w' :
 World) =>
 ∃
 (f_14
 :
 Nat →
 Int),
 ∃
 (f_15
 :
 Nat →
 Int),
 ∃
 (x
 :
 ByteArray),
 ∃
 (x_45
 :
 Int),
 ∃
 (x_46
 :
 Bool),
 ∃
 (x_47
 :
 Bool),
 ∃
 (p_7
 :
 Option
 Addr),
 ∃
 (n_11
 :
 Nat),
 ∃
 (c_7
 :
 Nat),
 ∃
 (x_48
 :
 ByteArray),
 e =
 Ending.returned
 (Value.agg
 (arrI IntKind.u8 f_14 32 0 ++ (arrI IntKind.u8 f_15 16 0 ++ [Value.string
 x,
 Value.int
 IntKind.i64
 x_45,
 Value.bool
 x_46,
 Value.bool
 x_47,
 Value.slice
 p_7
 n_11
 c_7,
 Value.string
 x_48])).toArray) ∧
 S
 w' ∧
 CallsS
 Tryz.prog
 27
 #[Value.agg
 (arrI IntKind.u8 f 32 0 ++ (arrI IntKind.u8 f_11 16 0 ++ [Value.string
 x_35,
 Value.int
 IntKind.i64
 x_36,
 Value.bool
 x_37,
 Value.bool
 x_38,
 Value.slice
 p
 n
 c,
 Value.string
 x_39])).toArray,
 Value.agg
 (arrI IntKind.u8 f_14 32 0 ++ (arrI IntKind.u8 f_15 16 0 ++ [Value.string
 x,
 Value.int
 IntKind.i64
 x_45,
 Value.bool
 x_46,
 Value.bool
 x_47,
 Value.slice
 p_7
 n_11
 c_7,
 Value.string
 x_48])).toArray]
 w'
 fun
 (e :
 Ending)
 (w' :
 World) =>
 ∃
 (x
 :
 Bool),
 e =
 Ending.returned
 (Value.bool
 x) ∧
 S
 w' ∧
 ∃
 (f
 :
 Nat →
 Int),
 ∃
 (f_16
 :
 Nat →
 Int),
 ∃
 (x_49
 :
 ByteArray),
 ∃
 (x_50
 :
 Int),
 ∃
 (x_51
 :
 Bool),
 ∃
 (x_52
 :
 Bool),
 ∃
 (p
 :
 Option
 Addr),
 ∃
 (n
 :
 Nat),
 ∃
 (c
 :
 Nat),
 ∃
 (x_53
 :
 ByteArray),
 gimp
 (true &&
 x)
 (∀
 (w' :
 World),
 S
 w' →
 AtL
 w'
 n_5
 0
 (arrI IntKind.u8 f 32 0 ++ (arrI IntKind.u8 f_16 16 0 ++ [Value.string
 x_49,
 Value.int
 IntKind.i64
 x_50,
 Value.bool
 x_51,
 Value.bool
 x_52,
 Value.slice
 p
 n
 c,
 Value.string
 x_53]))) ∧
 ∃
 (f_17
 :
 Nat →
 Int),
 ∃
 (f_18
 :
 Nat →
 Int),
 ∃
 (x_54
 :
 ByteArray),
 ∃
 (x_55
 :
 Int),
 ∃
 (x_56
 :
 Bool),
 ∃
 (x_57
 :
 Bool),
 ∃
 (p_8
 :
 Option
 Addr),
 ∃
 (n_12
 :
 Nat),
 ∃
 (c_8
 :
 Nat),
 ∃
 (x_58
 :
 ByteArray),
 gimp
 (true &&
 x)
 (∀
 (w' :
 World),
 S
 w' →
 AtL
 w'
 n_6
 0
 (arrI IntKind.u8 f_17 32 0 ++ (arrI IntKind.u8 f_18 16 0 ++ [Value.string
 x_54,
 Value.int
 IntKind.i64
 x_55,
 Value.bool
 x_56,
 Value.bool
 x_57,
 Value.slice
 p_8
 n_12
 c_8,
 Value.string
 x_58]))) ∧
 ∃
 (f_19
 :
 Nat →
 Int),
 ∃
 (f_20
 :
 Nat →
 Int),
 ∃
 (x_59
 :
 ByteArray),
 ∃
 (x_60
 :
 Int),
 ∃
 (x_61
 :
 Bool),
 ∃
 (x_62
 :
 Bool),
 ∃
 (p_9
 :
 Option
 Addr),
 ∃
 (n_13
 :
 Nat),
 ∃
 (c_9
 :
 Nat),
 ∃
 (x_63
 :
 ByteArray),
 gimp
 (true &&
 x)
 (∀
 (w' :
 World),
 S
 w' →
 AtL
 w'
 n_5
 0
 (arrI IntKind.u8 f_19 32 0 ++ (arrI IntKind.u8 f_20 16 0 ++ [Value.string
 x_59,
 Value.int
 IntKind.i64
 x_60,
 Value.bool
 x_61,
 Value.bool
 x_62,
 Value.slice
 p_9
 n_13
 c_9,
 Value.string
 x_63]))) ∧
 ∃
 (f_21
 :
 Nat →
 Int),
 ∃
 (f_22
 :
 Nat →
 Int),
 ∃
 (x_64
 :
 ByteArray),
 ∃
 (x_65
 :
 Int),
 ∃
 (x_66
 :
 Bool),
 ∃
 (x_67
 :
 Bool),
 ∃
 (p_10
 :
 Option
 Addr),
 ∃
 (n_14
 :
 Nat),
 ∃
 (c_10
 :
 Nat),
 ∃
 (x_68
 :
 ByteArray),
 gimp
 (true &&
 x)
 (∀
 (w' :
 World),
 S
 w' →
 AtL
 w'
 n_6
 0
 (arrI IntKind.u8 f_21 32 0 ++ (arrI IntKind.u8 f_22 16 0 ++ [Value.string
 x_64,
 Value.int
 IntKind.i64
 x_65,
 Value.bool
 x_66,
 Value.bool
 x_67,
 Value.slice
 p_10
 n_14
 c_10,
 Value.string
 x_68]))) ∧
 bsp
 (true &&
 x)
 (CallsS
 Tryz.prog
 27
 #[Value.agg
 (arrI IntKind.u8 f 32 0 ++ (arrI IntKind.u8 f_16 16 0 ++ [Value.string
 x_49,
 Value.int
 IntKind.i64
 x_50,
 Value.bool
 x_51,
 Value.bool
 x_52,
 Value.slice
 p
 n
 c,
 Value.string
 x_53])).toArray,
 Value.agg
 (arrI IntKind.u8 f_17 32 0 ++ (arrI IntKind.u8 f_18 16 0 ++ [Value.string
 x_54,
 Value.int
 IntKind.i64
 x_55,
 Value.bool
 x_56,
 Value.bool
 x_57,
 Value.slice
 p_8
 n_12
 c_8,
 Value.string
 x_58])).toArray]
 w'
 fun
 (e :
 Ending)
 (w' :
 World) =>
 ∃
 (x
 :
 Bool),
 e =
 Ending.returned
 (Value.bool
 x) ∧
 S
 w' ∧
 CallsS
 Tryz.prog
 26
 #[Value.agg
 (arrI IntKind.u8 f_19 32 0 ++ (arrI IntKind.u8 f_20 16 0 ++ [Value.string
 x_59,
 Value.int
 IntKind.i64
 x_60,
 Value.bool
 x_61,
 Value.bool
 x_62,
 Value.slice
 p_9
 n_13
 c_9,
 Value.string
 x_63])).toArray]
 w'
 fun
 (e :
 Ending)
 (w' :
 World) =>
 ∃
 (f
 :
 Nat →
 Int),
 ∃
 (f_23
 :
 Nat →
 Int),
 ∃
 (x_69
 :
 ByteArray),
 ∃
 (x_70
 :
 Int),
 ∃
 (x_71
 :
 Bool),
 ∃
 (x_72
 :
 Bool),
 ∃
 (p
 :
 Option
 Addr),
 ∃
 (n
 :
 Nat),
 ∃
 (c
 :
 Nat),
 ∃
 (x_73
 :
 ByteArray),
 e =
 Ending.returned
 (Value.agg
 (arrI IntKind.u8 f 32 0 ++ (arrI IntKind.u8 f_23 16 0 ++ [Value.string
 x_69,
 Value.int
 IntKind.i64
 x_70,
 Value.bool
 x_71,
 Value.bool
 x_72,
 Value.slice
 p
 n
 c,
 Value.string
 x_73])).toArray) ∧
 S
 w' ∧
 CallsS
 Tryz.prog
 26
 #[Value.agg
 (arrI IntKind.u8 f_21 32 0 ++ (arrI IntKind.u8 f_22 16 0 ++ [Value.string
 x_64,
 Value.int
 IntKind.i64
 x_65,
 Value.bool
 x_66,
 Value.bool
 x_67,
 Value.slice
 p_10
 n_14
 c_10,
 Value.string
 x_68])).toArray]
 w'
 fun
 (e :
 Ending)
 (w' :
 World) =>
 ∃
 (f_24
 :
 Nat →
 Int),
 ∃
 (f_25
 :
 Nat →
 Int),
 ∃
 (x_74
 :
 ByteArray),
 ∃
 (x_75
 :
 Int),
 ∃
 (x_76
 :
 Bool),
 ∃
 (x_77
 :
 Bool),
 ∃
 (p_11
 :
 Option
 Addr),
 ∃
 (n_15
 :
 Nat),
 ∃
 (c_11
 :
 Nat),
 ∃
 (x_78
 :
 ByteArray),
 e =
 Ending.returned
 (Value.agg
 (arrI IntKind.u8 f_24 32 0 ++ (arrI IntKind.u8 f_25 16 0 ++ [Value.string
 x_74,
 Value.int
 IntKind.i64
 x_75,
 Value.bool
 x_76,
 Value.bool
 x_77,
 Value.slice
 p_11
 n_15
 c_11,
 Value.string
 x_78])).toArray) ∧
 CallsS
 Tryz.prog
 28
 #[Value.agg
 (arrI IntKind.u8 f 32 0 ++ (arrI IntKind.u8 f_23 16 0 ++ [Value.string
 x_69,
 Value.int
 IntKind.i64
 x_70,
 Value.bool
 x_71,
 Value.bool
 x_72,
 Value.slice
 p
 n
 c,
 Value.string
 x_73])).toArray,
 Value.agg
 (arrI IntKind.u8 f_24 32 0 ++ (arrI IntKind.u8 f_25 16 0 ++ [Value.string
 x_74,
 Value.int
 IntKind.i64
 x_75,
 Value.bool
 x_76,
 Value.bool
 x_77,
 Value.slice
 p_11
 n_15
 c_11,
 Value.string
 x_78])).toArray]
 w'
 fun
 (e :
 Ending)
 (w' :
 World) =>
 ∃
 (x_79
 :
 Bool),
 e =
 Ending.returned
 (Value.bool
 x_79) ∧
 KeptL
 [n_2,
 n_1]
 W
 w' ∧
 R
 (Ending.returned
 (Value.bool
 (true &&
 x ==
 x_79)))
 w')
 (S
 w' ∧
 S
 w' ∧
 KeptL
 [n_2,
 n_1]
 W
 w' ∧
 R
 (Ending.returned
 (Value.bool
 false))
 w'))
 (S
 w' ∧
 S
 w' ∧
 ∃
 (f
 :
 Nat →
 Int),
 ∃
 (f
 :
 Nat →
 Int),
 ∃
 (x
 :
 ByteArray),
 ∃
 (x
 :
 Int),
 ∃
 (x
 :
 Bool),
 ∃
 (x
 :
 Bool),
 ∃
 (p
 :
 Option
 Addr),
 ∃
 (n
 :
 Nat),
 ∃
 (c
 :
 Nat),
 ∃
 (x
 :
 ByteArray),
 True ∧
 ∃
 (f
 :
 Nat →
 Int),
 ∃
 (f
 :
 Nat →
 Int),
 ∃
 (x
 :
 ByteArray),
 ∃
 (x
 :
 Int),
 ∃
 (x
 :
 Bool),
 ∃
 (x
 :
 Bool),
 ∃
 (p
 :
 Option
 Addr),
 ∃
 (n
 :
 Nat),
 ∃
 (c
 :
 Nat),
 ∃
 (x
 :
 ByteArray),
 True ∧
 ∃
 (f
 :
 Nat →
 Int),
 ∃
 (f
 :
 Nat →
 Int),
 ∃
 (x
 :
 ByteArray),
 ∃
 (x
 :
 Int),
 ∃
 (x
 :
 Bool),
 ∃
 (x
 :
 Bool),
 ∃
 (p
 :
 Option
 Addr),
 ∃
 (n
 :
 Nat),
 ∃
 (c
 :
 Nat),
 ∃
 (x
 :
 ByteArray),
 True ∧
 ∃
 (f
 :
 Nat →
 Int),
 ∃
 (f
 :
 Nat →
 Int),
 ∃
 (x
 :
 ByteArray),
 ∃
 (x
 :
 Int),
 ∃
 (x
 :
 Bool),
 ∃
 (x
 :
 Bool),
 ∃
 (p
 :
 Option
 Addr),
 ∃
 (n
 :
 Nat),
 ∃
 (c
 :
 Nat),
 ∃
 (x
 :
 ByteArray),
 True ∧
 S
 w' ∧
 S
 w' ∧
 KeptL
 [n_2,
 n_1]
 W
 w' ∧
 R
 (Ending.returned
 (Value.bool
 false))
 w'))
 (S w' ∧
 S w' ∧
 S w' ∧
 ∃ (f : Nat → Int),
 ∃ (f : Nat → Int),
 ∃ (x :
 ByteArray),
 ∃ (x : Int),
 ∃ (x : Bool),
 ∃ (x : Bool),
 ∃ (p :
 Option
 Addr),
 ∃ (n : Nat),
 ∃ (c :
 Nat),
 ∃ (x :
 ByteArray),
 True ∧
 ∃ (f :
 Nat →
 Int),
 ∃ (f :
 Nat →
 Int),
 ∃ (x :
 ByteArray),
 ∃ (x
 :
 Int),
 ∃ (x
 :
 Bool),
 ∃
 (x
 :
 Bool),
 ∃
 (p
 :
 Option
 Addr),
 ∃
 (n
 :
 Nat),
 ∃
 (c
 :
 Nat),
 ∃
 (x
 :
 ByteArray),
 True ∧
 S
 w' ∧
 S
 w' ∧
 ∃
 (f
 :
 Nat →
 Int),
 ∃
 (f
 :
 Nat →
 Int),
 ∃
 (x
 :
 ByteArray),
 ∃
 (x
 :
 Int),
 ∃
 (x
 :
 Bool),
 ∃
 (x
 :
 Bool),
 ∃
 (p
 :
 Option
 Addr),
 ∃
 (n
 :
 Nat),
 ∃
 (c
 :
 Nat),
 ∃
 (x
 :
 ByteArray),
 True ∧
 ∃
 (f
 :
 Nat →
 Int),
 ∃
 (f
 :
 Nat →
 Int),
 ∃
 (x
 :
 ByteArray),
 ∃
 (x
 :
 Int),
 ∃
 (x
 :
 Bool),
 ∃
 (x
 :
 Bool),
 ∃
 (p
 :
 Option
 Addr),
 ∃
 (n
 :
 Nat),
 ∃
 (c
 :
 Nat),
 ∃
 (x
 :
 ByteArray),
 True ∧
 ∃
 (f
 :
 Nat →
 Int),
 ∃
 (f
 :
 Nat →
 Int),
 ∃
 (x
 :
 ByteArray),
 ∃
 (x
 :
 Int),
 ∃
 (x
 :
 Bool),
 ∃
 (x
 :
 Bool),
 ∃
 (p
 :
 Option
 Addr),
 ∃
 (n
 :
 Nat),
 ∃
 (c
 :
 Nat),
 ∃
 (x
 :
 ByteArray),
 True ∧
 ∃
 (f
 :
 Nat →
 Int),
 ∃
 (f
 :
 Nat →
 Int),
 ∃
 (x
 :
 ByteArray),
 ∃
 (x
 :
 Int),
 ∃
 (x
 :
 Bool),
 ∃
 (x
 :
 Bool),
 ∃
 (p
 :
 Option
 Addr),
 ∃
 (n
 :
 Nat),
 ∃
 (c
 :
 Nat),
 ∃
 (x
 :
 ByteArray),
 True ∧
 S
 w' ∧
 S
 w' ∧
 KeptL
 [n_2,
 n_1]
 W
 w' ∧
 R
 (Ending.returned
 (Value.bool
 false))
 w')) ∧
 ∀ (n_5 : Nat) (w1 : World),
 NewB W
 (Obj.cells
 #[Value.int IntKind.u8 0, Value.int IntKind.u8 0, Value.int IntKind.u8 0,
 Value.int IntKind.u8 0, Value.int IntKind.u8 0, Value.int IntKind.u8 0,
 Value.int IntKind.u8 0, Value.int IntKind.u8 0, Value.int IntKind.u8 0,
 Value.int IntKind.u8 0, Value.int IntKind.u8 0, Value.int IntKind.u8 0,
 Value.int IntKind.u8 0, Value.int IntKind.u8 0, Value.int IntKind.u8 0,
 Value.int IntKind.u8 0, Value.int IntKind.u8 0, Value.int IntKind.u8 0,
 Value.int IntKind.u8 0, Value.int IntKind.u8 0, Value.int IntKind.u8 0,
 Value.int IntKind.u8 0, Value.int IntKind.u8 0, Value.int IntKind.u8 0,
 Value.int IntKind.u8 0, Value.int IntKind.u8 0, Value.int IntKind.u8 0,
 Value.int IntKind.u8 0, Value.int IntKind.u8 0, Value.int IntKind.u8 0,
 Value.int IntKind.u8 0, Value.int IntKind.u8 0, Value.int IntKind.u8 0,
 Value.int IntKind.u8 0, Value.int IntKind.u8 0, Value.int IntKind.u8 0,
 Value.int IntKind.u8 0, Value.int IntKind.u8 0, Value.int IntKind.u8 0,
 Value.int IntKind.u8 0, Value.int IntKind.u8 0, Value.int IntKind.u8 0,
 Value.int IntKind.u8 0, Value.int IntKind.u8 0, Value.int IntKind.u8 0,
 Value.int IntKind.u8 0, Value.int IntKind.u8 0, Value.int IntKind.u8 0,
 Value.string (ByteArray.mk #[]), Value.int IntKind.i64 0, Value.bool false,
 Value.bool false, Value.slice none 0 0, Value.string (ByteArray.mk #[])]
 56)
 n_5 w1 →
 S w1 ∧
 (CallsS Tryz.prog 23
 #[Value.agg
 (arrI IntKind.u8 f 32 0 ++ (arrI IntKind.u8 f_1 16 0 ++ [Value.string x, Value.int IntKind.i64 x_1,
 Value.bool x_2, Value.bool x_3, Value.slice p_1 n_3 c_1, Value.string x_4])).toArray]
 w1 fun (e : Ending) (w' : World) =>
 ∃ (f : Nat → Int),
 ∃ (f_4 : Nat → Int),
 ∃ (x : ByteArray),
 ∃ (x_10 : Int),
 ∃ (x_11 : Bool),
 ∃ (x_12 : Bool),
 ∃ (p_3 : Option Addr),
 ∃ (n_6 : Nat),
 ∃ (c_3 : Nat),
 ∃ (x_13 : ByteArray),
 e =
 Ending.returned
 (Value.agg
 (arrI IntKind.u8 f 32 0 ++ (arrI IntKind.u8 f_4 16 0 ++ [Value.string x, Value.int IntKind.i64 x_10, Value.bool x_11,
 Value.bool x_12, Value.slice p_3 n_6 c_3, Value.string x_13])).toArray) ∧
 S w' ∧
 (CallsS Tryz.prog 23
 #[Value.agg
 (arrI IntKind.u8 f_2 32 0 ++ (arrI IntKind.u8 f_3 16 0 ++ [Value.string x_5, Value.int IntKind.i64 x_6, Value.bool x_7,
 Value.bool x_8, Value.slice p_2 n_4 c_2, Value.string x_9])).toArray]
 w' fun (e : Ending) (w' : World) =>
 ∃ (f_5 : Nat → Int),
 ∃ (f_6 : Nat → Int),
 ∃ (x_14 : ByteArray),
 ∃ (x_15 : Int),
 ∃ (x_16 : Bool),
 ∃ (x_17 : Bool),
 ∃ (p_4 : Option Addr),
 ∃ (n_7 : Nat),
 ∃ (c_4 : Nat),
 ∃ (x_18 : ByteArray),
 e =
 Ending.returned
 (Value.agg
 (arrI IntKind.u8 f_5 32 0 ++ (arrI IntKind.u8 f_6 16 0 ++ [Value.string x_14,
 Value.int IntKind.i64 x_15, Value.bool x_16,
 Value.bool x_17, Value.slice p_4 n_7 c_4,
 Value.string x_18])).toArray) ∧
 ∀ (n_8 : Nat) (w1 : World),
 NewB w'
 (Obj.cells
 #[Value.int IntKind.u8 0, Value.int IntKind.u8 0,
 Value.int IntKind.u8 0, Value.int IntKind.u8 0,
 Value.int IntKind.u8 0, Value.int IntKind.u8 0,
 Value.int IntKind.u8 0, Value.int IntKind.u8 0,
 Value.int IntKind.u8 0, Value.int IntKind.u8 0,
 Value.int IntKind.u8 0, Value.int IntKind.u8 0,
 Value.int IntKind.u8 0, Value.int IntKind.u8 0,
 Value.int IntKind.u8 0, Value.int IntKind.u8 0,
 Value.int IntKind.u8 0, Value.int IntKind.u8 0,
 Value.int IntKind.u8 0, Value.int IntKind.u8 0,
 Value.int IntKind.u8 0, Value.int IntKind.u8 0,
 Value.int IntKind.u8 0, Value.int IntKind.u8 0,
 Value.int IntKind.u8 0, Value.int IntKind.u8 0,
 Value.int IntKind.u8 0, Value.int IntKind.u8 0,
 Value.int IntKind.u8 0, Value.int IntKind.u8 0,
 Value.int IntKind.u8 0, Value.int IntKind.u8 0,
 Value.int IntKind.u8 0, Value.int IntKind.u8 0,
 Value.int IntKind.u8 0, Value.int IntKind.u8 0,
 Value.int IntKind.u8 0, Value.int IntKind.u8 0,
 Value.int IntKind.u8 0, Value.int IntKind.u8 0,
 Value.int IntKind.u8 0, Value.int IntKind.u8 0,
 Value.int IntKind.u8 0, Value.int IntKind.u8 0,
 Value.int IntKind.u8 0, Value.int IntKind.u8 0,
 Value.int IntKind.u8 0, Value.int IntKind.u8 0,
 Value.string (ByteArray.mk #[]), Value.int IntKind.i64 0,
 Value.bool false, Value.bool false, Value.slice none 0 0,
 Value.string (ByteArray.mk #[])]
 56)
 n_8 w1 →
 S w1 ∧
 WrL w1 n_8 0 54 ∧
 ∀ (w1_1 : World),
 PutB w1 n_8 0
 (arrI IntKind.u8 f 32 0 ++ (arrI IntKind.u8 f_4 16 0 ++ [Value.string x,
 Value.int IntKind.i64 x_10, Value.bool x_11,
 Value.bool x_12, Value.slice p_3 n_6 c_3,
 Value.string x_13]))
 w1_1 →
 WrL w1_1 n_5 0 54 ∧
 ∀ (w1 : World),
 PutB w1_1 n_5 0
 (arrI IntKind.u8 f_5 32 0 ++ (arrI IntKind.u8 f_6 16 0 ++ [Value.string x_14,
 Value.int IntKind.i64 x_15, Value.bool x_16,
 Value.bool x_17, Value.slice p_4 n_7 c_4,
 Value.string x_18]))
 w1 →
 KeptL [n_2, n_1] W w1 ∧
 ∀ (W : World),
 Loc w.heap.size
 [Blk.mk n_2 50
 (arrI IntKind.u8 id2 32 0 ++ (arrI IntKind.u8 au2 16 0 ++ [Value.string g2, Value.int IntKind.i64 v2,
 Value.bool rm2, Value.bool md2,
 Value.slice p2 n2 c2, Value.string t2]))
 0,
 Blk.mk n_1 50
 (arrI IntKind.u8 id 32 0 ++ (arrI IntKind.u8 au 16 0 ++ [Value.string g,
 Value.int IntKind.i64 v, Value.bool rm,
 Value.bool md, Value.slice p n c,
 Value.string t]))
 0]
 w1 W →
 ∃ (S : World → Prop),
 S W ∧
 CallsS Tryz.prog 15 #[] W
 fun (e : Ending) (w' : World) =>
 ∃ (x : Bool),
 e = Ending.returned (Value.bool x) ∧
 S w' ∧
 ∃ (f : Nat → Int),
 ∃ (f_7 : Nat → Int),
 ∃ (x_19 : ByteArray),
 ∃ (x_20 : Int),
 ∃ (x_21 : Bool),
 ∃ (x_22 : Bool),
 ∃ (p : Option Addr),
 ∃ (n : Nat),
 ∃ (c : Nat),
 ∃ (x_23 : ByteArray),
 gimp x
 (∀ (w' : World),
 S w' →
 AtL w' n_8 0
 (arrI IntKind.u8 f 32 0 ++ (arrI IntKind.u8 f_7 16 0 ++ [Value.string x_19,
 Value.int IntKind.i64 x_20,
 Value.bool x_21,
 Value.bool x_22,
 Value.slice p n c,
 Value.string x_23]))) ∧
 ∃ (f_8 : Nat → Int),
 ∃ (f_9 : Nat → Int),
 ∃ (x_24 : ByteArray),
 ∃ (x_25 : Int),
 ∃ (x_26 : Bool),
 ∃ (x_27 : Bool),
 ∃ (p_5 : Option Addr),
 ∃ (n_9 : Nat),
 ∃ (c_5 : Nat),
 ∃ (x_28 : ByteArray),
 gimp x
 (∀ (w' : World),
 S w' →
 AtL w' n_8 0
 (arrI IntKind.u8 f_8 32 0 ++ (arrI IntKind.u8 f_9 16 0 ++ [Value.string
 x_24,
 Value.int
 IntKind.i64
 x_25,
 Value.bool x_26,
 Value.bool x_27,
 Value.slice p_5
 n_9 c_5,
 Value.string
 x_28]))) ∧
 bsp x
 (CallsS Tryz.prog 24
 #[Value.agg
 (arrI IntKind.u8 f 32 0 ++ (arrI IntKind.u8 f_7 16 0 ++ [Value.string
 x_19,
 Value.int
 IntKind.i64
 x_20,
 Value.bool x_21,
 Value.bool x_22,
 Value.slice p n
 c,
 Value.string
 x_23])).toArray]
 w'
 fun (e : Ending)
 (w' : World) =>
 ∃ (x : Int),
 e =
 Ending.returned
 (Value.int
 IntKind.i64
 x) ∧
 S w' ∧
 CallsS Tryz.prog
 26
 #[Value.agg
 (arrI IntKind.u8 f_8 32 0 ++ (arrI IntKind.u8 f_9 16 0 ++ [Value.string
 x_24,
 Value.int
 IntKind.i64
 x_25,
 Value.bool
 x_26,
 Value.bool
 x_27,
 Value.slice
 p_5 n_9 c_5,
 Value.string
 x_28])).toArray]
 w'
 fun (e : Ending)
 (w' : World) =>
 ∃ (f :
 Nat → Int),
 ∃ (f_10 :
 Nat → Int),
 ∃ (x_29 :
 ByteArray),
 ∃ (x_30 :
 Int),
 ∃ (x_31 :
 Bool),
 ∃ (x_32 :
 Bool),
 ∃ (p :
 Option
 Addr),
 ∃ (n :
 Nat),
 ∃ (c :
 Nat),
 ∃ (x_33
 :
 ByteArray),
 e =
 Ending.returned
 (Value.agg
 (arrI IntKind.u8 f 32 0 ++ (arrI IntKind.u8 f_10 16 0 ++ [Value.string
 x_29,
 Value.int
 IntKind.i64
 x_30,
 Value.bool
 x_31,
 Value.bool
 x_32,
 Value.slice
 p
 n
 c,
 Value.string
 x_33])).toArray) ∧
 S
 w' ∧
 CallsS
 Tryz.prog
 25
 #[Value.agg
 (arrI IntKind.u8 f 32 0 ++ (arrI IntKind.u8 f_10 16 0 ++ [Value.string
 x_29,
 Value.int
 IntKind.i64
 x_30,
 Value.bool
 x_31,
 Value.bool
 x_32,
 Value.slice
 p
 n
 c,
 Value.string
 x_33])).toArray]
 w'
 fun
 (e :
 Ending)
 (w' :
 World) =>
 ∃
 (x_34
 :
 Int),
 e =
 Ending.returned
 (Value.int
 IntKind.i64
 x_34) ∧
 S
 w' ∧
 ∃
 (f
 :
 Nat →
 Int),
 ∃
 (f_11
 :
 Nat →
 Int),
 ∃
 (x_35
 :
 ByteArray),
 ∃
 (x_36
 :
 Int),
 ∃
 (x_37
 :
 Bool),
 ∃
 (x_38
 :
 Bool),
 ∃
 (p
 :
 Option
 Addr),
 ∃
 (n
 :
 Nat),
 ∃
 (c
 :
 Nat),
 ∃
 (x_39
 :
 ByteArray),
 gimp
 (true &&
 x ==
 x_34)
 (∀
 (w' :
 World),
 S
 w' →
 AtL
 w'
 n_8
 0
 (arrI IntKind.u8 f 32 0 ++ (arrI IntKind.u8 f_11 16 0 ++ [Value.string
 x_35,
 Value.int
 IntKind.i64
 x_36,
 Value.bool
 x_37,
 Value.bool
 x_38,
 Value.slice
 p
 n
 c,
 Value.string
 x_39]))) ∧
 ∃
 (f_12
 :
 Nat →
 Int),
 ∃
 (f_13
 :
 Nat →
 Int),
 ∃
 (x_40
 :
 ByteArray),
 ∃
 (x_41
 :
 Int),
 ∃
 (x_42
 :
 Bool),
 ∃
 (x_43
 :
 Bool),
 ∃
 (p_6
 :
 Option
 Addr),
 ∃
 (n_10
 :
 Nat),
 ∃
 (c_6
 :
 Nat),
 ∃
 (x_44
 :
 ByteArray),
 gimp
 (true &&
 x ==
 x_34)
 (∀
 (w' :
 World),
 S
 w' →
 AtL
 w'
 n_1
 0
 (arrI IntKind.u8 f_12 32 0 ++ (arrI IntKind.u8 f_13 16 0 ++ [Value.string
 x_40,
 Value.int
 IntKind.i64
 x_41,
 Value.bool
 x_42,
 Value.bool
 x_43,
 Value.slice
 p_6
 n_10
 c_6,
 Value.string
 x_44]))) ∧
 bsp
 (true &&
 x ==
 x_34)
 (CallsS
 Tryz.prog
 23
 #[Value.agg
 (arrI IntKind.u8 f_12 32 0 ++ (arrI IntKind.u8 f_13 16 0 ++ [Value.string
 x_40,
 Value.int
 IntKind.i64
 x_41,
 Value.bool
 x_42,
 Value.bool
 x_43,
 Value.slice
 p_6
 n_10
 c_6,
 Value.string
 x_44])).toArray]
 w'
 fun
 (e :
 Ending)
 (w' :
 World) =>
 ∃
 (f_14
 :
 Nat →
 Int),
 ∃
 (f_15
 :
 Nat →
 Int),
 ∃
 (x
 :
 ByteArray),
 ∃
 (x_45
 :
 Int),
 ∃
 (x_46
 :
 Bool),
 ∃
 (x_47
 :
 Bool),
 ∃
 (p_7
 :
 Option
 Addr),
 ∃
 (n_11
 :
 Nat),
 ∃
 (c_7
 :
 Nat),
 ∃
 (x_48
 :
 ByteArray),
 e =
 Ending.returned
 (Value.agg
 (arrI IntKind.u8 f_14 32 0 ++ (arrI IntKind.u8 f_15 16 0 ++ [Value.string
 x,
 Value.int
 IntKind.i64
 x_45,
 Value.bool
 x_46,
 Value.bool
 x_47,
 Value.slice
 p_7
 n_11
 c_7,
 Value.string
 x_48])).toArray) ∧
 S
 w' ∧
 CallsS
 Tryz.prog
 27
 #[Value.agg
 (arrI IntKind.u8 f 32 0 ++ (arrI IntKind.u8 f_11 16 0 ++ [Value.string
 x_35,
 Value.int
 IntKind.i64
 x_36,
 Value.bool
 x_37,
 Value.bool
 x_38,
 Value.slice
 p
 n
 c,
 Value.string
 x_39])).toArray,
 Value.agg
 (arrI IntKind.u8 f_14 32 0 ++ (arrI IntKind.u8 f_15 16 0 ++ [Value.string
 x,
 Value.int
 IntKind.i64
 x_45,
 Value.bool
 x_46,
 Value.bool
 x_47,
 Value.slice
 p_7
 n_11
 c_7,
 Value.string
 x_48])).toArray]
 w'
 fun
 (e :
 Ending)
 (w' :
 World) =>
 ∃
 (x
 :
 Bool),
 e =
 Ending.returned
 (Value.bool
 x) ∧
 S
 w' ∧
 ∃
 (f
 :
 Nat →
 Int),
 ∃
 (f_16
 :
 Nat →
 Int),
 ∃
 (x_49
 :
 ByteArray),
 ∃
 (x_50
 :
 Int),
 ∃
 (x_51
 :
 Bool),
 ∃
 (x_52
 :
 Bool),
 ∃
 (p
 :
 Option
 Addr),
 ∃
 (n
 :
 Nat),
 ∃
 (c
 :
 Nat),
 ∃
 (x_53
 :
 ByteArray),
 gimp
 (true &&
 x)
 (∀
 (w' :
 World),
 S
 w' →
 AtL
 w'
 n_8
 0
 (arrI IntKind.u8 f 32 0 ++ (arrI IntKind.u8 f_16 16 0 ++ [Value.string
 x_49,
 Value.int
 IntKind.i64
 x_50,
 Value.bool
 x_51,
 Value.bool
 x_52,
 Value.slice
 p
 n
 c,
 Value.string
 x_53]))) ∧
 ∃
 (f_17
 :
 Nat →
 Int),
 ∃
 (f_18
 :
 Nat →
 Int),
 ∃
 (x_54
 :
 ByteArray),
 ∃
 (x_55
 :
 Int),
 ∃
 (x_56
 :
 Bool),
 ∃
 (x_57
 :
 Bool),
 ∃
 (p_8
 :
 Option
 Addr),
 ∃
 (n_12
 :
 Nat),
 ∃
 (c_8
 :
 Nat),
 ∃
 (x_58
 :
 ByteArray),
 gimp
 (true &&
 x)
 (∀
 (w' :
 World),
 S
 w' →
 AtL
 w'
 n_5
 0
 (arrI IntKind.u8 f_17 32 0 ++ (arrI IntKind.u8 f_18 16 0 ++ [Value.string
 x_54,
 Value.int
 IntKind.i64
 x_55,
 Value.bool
 x_56,
 Value.bool
 x_57,
 Value.slice
 p_8
 n_12
 c_8,
 Value.string
 x_58]))) ∧
 ∃
 (f_19
 :
 Nat →
 Int),
 ∃
 (f_20
 :
 Nat →
 Int),
 ∃
 (x_59
 :
 ByteArray),
 ∃
 (x_60
 :
 Int),
 ∃
 (x_61
 :
 Bool),
 ∃
 (x_62
 :
 Bool),
 ∃
 (p_9
 :
 Option
 Addr),
 ∃
 (n_13
 :
 Nat),
 ∃
 (c_9
 :
 Nat),
 ∃
 (x_63
 :
 ByteArray),
 gimp
 (true &&
 x)
 (∀
 (w' :
 World),
 S
 w' →
 AtL
 w'
 n_8
 0
 (arrI IntKind.u8 f_19 32 0 ++ (arrI IntKind.u8 f_20 16 0 ++ [Value.string
 x_59,
 Value.int
 IntKind.i64
 x_60,
 Value.bool
 x_61,
 Value.bool
 x_62,
 Value.slice
 p_9
 n_13
 c_9,
 Value.string
 x_63]))) ∧
 ∃
 (f_21
 :
 Nat →
 Int),
 ∃
 (f_22
 :
 Nat →
 Int),
 ∃
 (x_64
 :
 ByteArray),
 ∃
 (x_65
 :
 Int),
 ∃
 (x_66
 :
 Bool),
 ∃
 (x_67
 :
 Bool),
 ∃
 (p_10
 :
 Option
 Addr),
 ∃
 (n_14
 :
 Nat),
 ∃
 (c_10
 :
 Nat),
 ∃
 (x_68
 :
 ByteArray),
 gimp
 (true &&
 x)
 (∀
 (w' :
 World),
 S
 w' →
 AtL
 w'
 n_5
 0
 (arrI IntKind.u8 f_21 32 0 ++ (arrI IntKind.u8 f_22 16 0 ++ [Value.string
 x_64,
 Value.int
 IntKind.i64
 x_65,
 Value.bool
 x_66,
 Value.bool
 x_67,
 Value.slice
 p_10
 n_14
 c_10,
 Value.string
 x_68]))) ∧
 bsp
 (true &&
 x)
 (CallsS
 Tryz.prog
 27
 #[Value.agg
 (arrI IntKind.u8 f 32 0 ++ (arrI IntKind.u8 f_16 16 0 ++ [Value.string
 x_49,
 Value.int
 IntKind.i64
 x_50,
 Value.bool
 x_51,
 Value.bool
 x_52,
 Value.slice
 p
 n
 c,
 Value.string
 x_53])).toArray,
 Value.agg
 (arrI IntKind.u8 f_17 32 0 ++ (arrI IntKind.u8 f_18 16 0 ++ [Value.string
 x_54,
 Value.int
 IntKind.i64
 x_55,
 Value.bool
 x_56,
 Value.bool
 x_57,
 Value.slice
 p_8
 n_12
 c_8,
 Value.string
 x_58])).toArray]
 w'
 fun
 (e :
 Ending)
 (w' :
 World) =>
 ∃
 (x
 :
 Bool),
 e =
 Ending.returned
 (Value.bool
 x) ∧
 S
 w' ∧
 CallsS
 Tryz.prog
 26
 #[Value.agg
 (arrI IntKind.u8 f_19 32 0 ++ (arrI IntKind.u8 f_20 16 0 ++ [Value.string
 x_59,
 Value.int
 IntKind.i64
 x_60,
 Value.bool
 x_61,
 Value.bool
 x_62,
 Value.slice
 p_9
 n_13
 c_9,
 Value.string
 x_63])).toArray]
 w'
 fun
 (e :
 Ending)
 (w' :
 World) =>
 ∃
 (f
 :
 Nat →
 Int),
 ∃
 (f_23
 :
 Nat →
 Int),
 ∃
 (x_69
 :
 ByteArray),
 ∃
 (x_70
 :
 Int),
 ∃
 (x_71
 :
 Bool),
 ∃
 (x_72
 :
 Bool),
 ∃
 (p
 :
 Option
 Addr),
 ∃
 (n
 :
 Nat),
 ∃
 (c
 :
 Nat),
 ∃
 (x_73
 :
 ByteArray),
 e =
 Ending.returned
 (Value.agg
 (arrI IntKind.u8 f 32 0 ++ (arrI IntKind.u8 f_23 16 0 ++ [Value.string
 x_69,
 Value.int
 IntKind.i64
 x_70,
 Value.bool
 x_71,
 Value.bool
 x_72,
 Value.slice
 p
 n
 c,
 Value.string
 x_73])).toArray) ∧
 S
 w' ∧
 CallsS
 Tryz.prog
 26
 #[Value.agg
 (arrI IntKind.u8 f_21 32 0 ++ (arrI IntKind.u8 f_22 16 0 ++ [Value.string
 x_64,
 Value.int
 IntKind.i64
 x_65,
 Value.bool
 x_66,
 Value.bool
 x_67,
 Value.slice
 p_10
 n_14
 c_10,
 Value.string
 x_68])).toArray]
 w'
 fun
 (e :
 Ending)
 (w' :
 World) =>
 ∃
 (f_24
 :
 Nat →
 Int),
 ∃
 (f_25
 :
 Nat →
 Int),
 ∃
 (x_74
 :
 ByteArray),
 ∃
 (x_75
 :
 Int),
 ∃
 (x_76
 :
 Bool),
 ∃
 (x_77
 :
 Bool),
 ∃
 (p_11
 :
 Option
 Addr),
 ∃
 (n_15
 :
 Nat),
 ∃
 (c_11
 :
 Nat),
 ∃
 (x_78
 :
 ByteArray),
 e =
 Ending.returned
 (Value.agg
 (arrI IntKind.u8 f_24 32 0 ++ (arrI IntKind.u8 f_25 16 0 ++ [Value.string
 x_74,
 Value.int
 IntKind.i64
 x_75,
 Value.bool
 x_76,
 Value.bool
 x_77,
 Value.slice
 p_11
 n_15
 c_11,
 Value.string
 x_78])).toArray) ∧
 CallsS
 Tryz.prog
 28
 #[Value.agg
 (arrI IntKind.u8 f 32 0 ++ (arrI IntKind.u8 f_23 16 0 ++ [Value.string
 x_69,
 Value.int
 IntKind.i64
 x_70,
 Value.bool
 x_71,
 Value.bool
 x_72,
 Value.slice
 p
 n
 c,
 Value.string
 x_73])).toArray,
 Value.agg
 (arrI IntKind.u8 f_24 32 0 ++ (arrI IntKind.u8 f_25 16 0 ++ [Value.string
 x_74,
 Value.int
 IntKind.i64
 x_75,
 Value.bool
 x_76,
 Value.bool
 x_77,
 Value.slice
 p_11
 n_15
 c_11,
 Value.string
 x_78])).toArray]
 w'
 fun
 (e :
 Ending)
 (w' :
 World) =>
 ∃
 (x_79
 :
 Bool),
 e =
 Ending.returned
 (Value.bool
 x_79) ∧
 KeptL
 [n_2,
 n_1]
 W
 w' ∧
 R
 (Ending.returned
 (Value.bool
 (true &&
 x ==
 x_79)))
 w')
 (S
 w' ∧
 S
 w' ∧
 KeptL
 [n_2,
 n_1]
 W
 w' ∧
 R
 (Ending.returned
 (Value.bool
 false))
 w'))
 (S
 w' ∧
 S
 w' ∧
 ∃
 (f
 :
 Nat →
 Int),
 ∃
 (f
 :
 Nat →
 Int),
 ∃
 (x
 :
 ByteArray),
 ∃
 (x
 :
 Int),
 ∃
 (x
 :
 Bool),
 ∃
 (x
 :
 Bool),
 ∃
 (p
 :
 Option
 Addr),
 ∃
 (n
 :
 Nat),
 ∃
 (c
 :
 Nat),
 ∃
 (x
 :
 ByteArray),
 True ∧
 ∃
 (f
 :
 Nat →
 Int),
 ∃
 (f
 :
 Nat →
 Int),
 ∃
 (x
 :
 ByteArray),
 ∃
 (x
 :
 Int),
 ∃
 (x
 :
 Bool),
 ∃
 (x
 :
 Bool),
 ∃
 (p
 :
 Option
 Addr),
 ∃
 (n
 :
 Nat),
 ∃
 (c
 :
 Nat),
 ∃
 (x
 :
 ByteArray),
 True ∧
 ∃
 (f
 :
 Nat →
 Int),
 ∃
 (f
 :
 Nat →
 Int),
 ∃
 (x
 :
 ByteArray),
 ∃
 (x
 :
 Int),
 ∃
 (x
 :
 Bool),
 ∃
 (x
 :
 Bool),
 ∃
 (p
 :
 Option
 Addr),
 ∃
 (n
 :
 Nat),
 ∃
 (c
 :
 Nat),
 ∃
 (x
 :
 ByteArray),
 True ∧
 ∃
 (f
 :
 Nat →
 Int),
 ∃
 (f
 :
 Nat →
 Int),
 ∃
 (x
 :
 ByteArray),
 ∃
 (x
 :
 Int),
 ∃
 (x
 :
 Bool),
 ∃
 (x
 :
 Bool),
 ∃
 (p
 :
 Option
 Addr),
 ∃
 (n
 :
 Nat),
 ∃
 (c
 :
 Nat),
 ∃
 (x
 :
 ByteArray),
 True ∧
 S
 w' ∧
 S
 w' ∧
 KeptL
 [n_2,
 n_1]
 W
 w' ∧
 R
 (Ending.returned
 (Value.bool
 false))
 w'))
 (S w' ∧
 S w' ∧
 S w' ∧
 ∃ (f : Nat → Int),
 ∃ (f :
 Nat → Int),
 ∃ (x :
 ByteArray),
 ∃ (x : Int),
 ∃ (x : Bool),
 ∃ (x : Bool),
 ∃ (p :
 Option
 Addr),
 ∃ (n :
 Nat),
 ∃ (c :
 Nat),
 ∃ (x :
 ByteArray),
 True ∧
 ∃ (f :
 Nat →
 Int),
 ∃ (f :
 Nat →
 Int),
 ∃ (x
 :
 ByteArray),
 ∃ (x
 :
 Int),
 ∃
 (x
 :
 Bool),
 ∃
 (x
 :
 Bool),
 ∃
 (p
 :
 Option
 Addr),
 ∃
 (n
 :
 Nat),
 ∃
 (c
 :
 Nat),
 ∃
 (x
 :
 ByteArray),
 True ∧
 S
 w' ∧
 S
 w' ∧
 ∃
 (f
 :
 Nat →
 Int),
 ∃
 (f
 :
 Nat →
 Int),
 ∃
 (x
 :
 ByteArray),
 ∃
 (x
 :
 Int),
 ∃
 (x
 :
 Bool),
 ∃
 (x
 :
 Bool),
 ∃
 (p
 :
 Option
 Addr),
 ∃
 (n
 :
 Nat),
 ∃
 (c
 :
 Nat),
 ∃
 (x
 :
 ByteArray),
 True ∧
 ∃
 (f
 :
 Nat →
 Int),
 ∃
 (f
 :
 Nat →
 Int),
 ∃
 (x
 :
 ByteArray),
 ∃
 (x
 :
 Int),
 ∃
 (x
 :
 Bool),
 ∃
 (x
 :
 Bool),
 ∃
 (p
 :
 Option
 Addr),
 ∃
 (n
 :
 Nat),
 ∃
 (c
 :
 Nat),
 ∃
 (x
 :
 ByteArray),
 True ∧
 ∃
 (f
 :
 Nat →
 Int),
 ∃
 (f
 :
 Nat →
 Int),
 ∃
 (x
 :
 ByteArray),
 ∃
 (x
 :
 Int),
 ∃
 (x
 :
 Bool),
 ∃
 (x
 :
 Bool),
 ∃
 (p
 :
 Option
 Addr),
 ∃
 (n
 :
 Nat),
 ∃
 (c
 :
 Nat),
 ∃
 (x
 :
 ByteArray),
 True ∧
 ∃
 (f
 :
 Nat →
 Int),
 ∃
 (f
 :
 Nat →
 Int),
 ∃
 (x
 :
 ByteArray),
 ∃
 (x
 :
 Int),
 ∃
 (x
 :
 Bool),
 ∃
 (x
 :
 Bool),
 ∃
 (p
 :
 Option
 Addr),
 ∃
 (n
 :
 Nat),
 ∃
 (c
 :
 Nat),
 ∃
 (x
 :
 ByteArray),
 True ∧
 S
 w' ∧
 S
 w' ∧
 KeptL
 [n_2,
 n_1]
 W
 w' ∧
 R
 (Ending.returned
 (Value.bool
 false))
 w')) ∧
 ∀ (n_7 : Nat) (w1 : World),
 NewB w'
 (Obj.cells
 #[Value.int IntKind.u8 0, Value.int IntKind.u8 0,
 Value.int IntKind.u8 0, Value.int IntKind.u8 0,
 Value.int IntKind.u8 0, Value.int IntKind.u8 0,
 Value.int IntKind.u8 0, Value.int IntKind.u8 0,
 Value.int IntKind.u8 0, Value.int IntKind.u8 0,
 Value.int IntKind.u8 0, Value.int IntKind.u8 0,
 Value.int IntKind.u8 0, Value.int IntKind.u8 0,
 Value.int IntKind.u8 0, Value.int IntKind.u8 0,
 Value.int IntKind.u8 0, Value.int IntKind.u8 0,
 Value.int IntKind.u8 0, Value.int IntKind.u8 0,
 Value.int IntKind.u8 0, Value.int IntKind.u8 0,
 Value.int IntKind.u8 0, Value.int IntKind.u8 0,
 Value.int IntKind.u8 0, Value.int IntKind.u8 0,
 Value.int IntKind.u8 0, Value.int IntKind.u8 0,
 Value.int IntKind.u8 0, Value.int IntKind.u8 0,
 Value.int IntKind.u8 0, Value.int IntKind.u8 0,
 Value.int IntKind.u8 0, Value.int IntKind.u8 0,
 Value.int IntKind.u8 0, Value.int IntKind.u8 0,
 Value.int IntKind.u8 0, Value.int IntKind.u8 0,
 Value.int IntKind.u8 0, Value.int IntKind.u8 0,
 Value.int IntKind.u8 0, Value.int IntKind.u8 0,
 Value.int IntKind.u8 0, Value.int IntKind.u8 0,
 Value.int IntKind.u8 0, Value.int IntKind.u8 0,
 Value.int IntKind.u8 0, Value.int IntKind.u8 0,
 Value.string (ByteArray.mk #[]), Value.int IntKind.i64 0,
 Value.bool false, Value.bool false, Value.slice none 0 0,
 Value.string (ByteArray.mk #[])]
 56)
 n_7 w1 →
 S w1 ∧
 CallsS Tryz.prog 23
 #[Value.agg
 (arrI IntKind.u8 f_2 32 0 ++ (arrI IntKind.u8 f_3 16 0 ++ [Value.string x_5, Value.int IntKind.i64 x_6, Value.bool x_7,
 Value.bool x_8, Value.slice p_2 n_4 c_2, Value.string x_9])).toArray]
 w1 fun (e : Ending) (w' : World) =>
 ∃ (f_5 : Nat → Int),
 ∃ (f_6 : Nat → Int),
 ∃ (x_14 : ByteArray),
 ∃ (x_15 : Int),
 ∃ (x_16 : Bool),
 ∃ (x_17 : Bool),
 ∃ (p_4 : Option Addr),
 ∃ (n_8 : Nat),
 ∃ (c_4 : Nat),
 ∃ (x_18 : ByteArray),
 e =
 Ending.returned
 (Value.agg
 (arrI IntKind.u8 f_5 32 0 ++ (arrI IntKind.u8 f_6 16 0 ++ [Value.string x_14,
 Value.int IntKind.i64 x_15, Value.bool x_16,
 Value.bool x_17, Value.slice p_4 n_8 c_4,
 Value.string x_18])).toArray) ∧
 WrL w' n_7 0 54 ∧
 ∀ (w1 : World),
 PutB w' n_7 0
 (arrI IntKind.u8 f 32 0 ++ (arrI IntKind.u8 f_4 16 0 ++ [Value.string x,
 Value.int IntKind.i64 x_10, Value.bool x_11,
 Value.bool x_12, Value.slice p_3 n_6 c_3,
 Value.string x_13]))
 w1 →
 WrL w1 n_5 0 54 ∧
 ∀ (w1_1 : World),
 PutB w1 n_5 0
 (arrI IntKind.u8 f_5 32 0 ++ (arrI IntKind.u8 f_6 16 0 ++ [Value.string x_14,
 Value.int IntKind.i64 x_15, Value.bool x_16,
 Value.bool x_17, Value.slice p_4 n_8 c_4,
 Value.string x_18]))
 w1_1 →
 KeptL [n_2, n_1] W w1_1 ∧
 ∀ (W : World),
 Loc w.heap.size
 [Blk.mk n_2 50
 (arrI IntKind.u8 id2 32 0 ++ (arrI IntKind.u8 au2 16 0 ++ [Value.string g2, Value.int IntKind.i64 v2,
 Value.bool rm2, Value.bool md2,
 Value.slice p2 n2 c2, Value.string t2]))
 0,
 Blk.mk n_1 50
 (arrI IntKind.u8 id 32 0 ++ (arrI IntKind.u8 au 16 0 ++ [Value.string g,
 Value.int IntKind.i64 v, Value.bool rm,
 Value.bool md, Value.slice p n c,
 Value.string t]))
 0]
 w1_1 W →
 ∃ (S : World → Prop),
 S W ∧
 CallsS Tryz.prog 15 #[] W
 fun (e : Ending) (w' : World) =>
 ∃ (x : Bool),
 e = Ending.returned (Value.bool x) ∧
 S w' ∧
 ∃ (f : Nat → Int),
 ∃ (f_7 : Nat → Int),
 ∃ (x_19 : ByteArray),
 ∃ (x_20 : Int),
 ∃ (x_21 : Bool),
 ∃ (x_22 : Bool),
 ∃ (p : Option Addr),
 ∃ (n : Nat),
 ∃ (c : Nat),
 ∃ (x_23 : ByteArray),
 gimp x
 (∀ (w' : World),
 S w' →
 AtL w' n_7 0
 (arrI IntKind.u8 f 32 0 ++ (arrI IntKind.u8 f_7 16 0 ++ [Value.string x_19,
 Value.int IntKind.i64 x_20,
 Value.bool x_21,
 Value.bool x_22,
 Value.slice p n c,
 Value.string x_23]))) ∧
 ∃ (f_8 : Nat → Int),
 ∃ (f_9 : Nat → Int),
 ∃ (x_24 : ByteArray),
 ∃ (x_25 : Int),
 ∃ (x_26 : Bool),
 ∃ (x_27 : Bool),
 ∃ (p_5 : Option Addr),
 ∃ (n_9 : Nat),
 ∃ (c_5 : Nat),
 ∃ (x_28 : ByteArray),
 gimp x
 (∀ (w' : World),
 S w' →
 AtL w' n_7 0
 (arrI IntKind.u8 f_8 32 0 ++ (arrI IntKind.u8 f_9 16 0 ++ [Value.string
 x_24,
 Value.int
 IntKind.i64
 x_25,
 Value.bool x_26,
 Value.bool x_27,
 Value.slice p_5
 n_9 c_5,
 Value.string
 x_28]))) ∧
 bsp x
 (CallsS Tryz.prog 24
 #[Value.agg
 (arrI IntKind.u8 f 32 0 ++ (arrI IntKind.u8 f_7 16 0 ++ [Value.string
 x_19,
 Value.int
 IntKind.i64
 x_20,
 Value.bool x_21,
 Value.bool x_22,
 Value.slice p n
 c,
 Value.string
 x_23])).toArray]
 w'
 fun (e : Ending)
 (w' : World) =>
 ∃ (x : Int),
 e =
 Ending.returned
 (Value.int
 IntKind.i64
 x) ∧
 S w' ∧
 CallsS Tryz.prog
 26
 #[Value.agg
 (arrI IntKind.u8 f_8 32 0 ++ (arrI IntKind.u8 f_9 16 0 ++ [Value.string
 x_24,
 Value.int
 IntKind.i64
 x_25,
 Value.bool
 x_26,
 Value.bool
 x_27,
 Value.slice
 p_5 n_9 c_5,
 Value.string
 x_28])).toArray]
 w'
 fun (e : Ending)
 (w' : World) =>
 ∃ (f :
 Nat → Int),
 ∃ (f_10 :
 Nat → Int),
 ∃ (x_29 :
 ByteArray),
 ∃ (x_30 :
 Int),
 ∃ (x_31 :
 Bool),
 ∃ (x_32 :
 Bool),
 ∃ (p :
 Option
 Addr),
 ∃ (n :
 Nat),
 ∃ (c :
 Nat),
 ∃ (x_33
 :
 ByteArray),
 e =
 Ending.returned
 (Value.agg
 (arrI IntKind.u8 f 32 0 ++ (arrI IntKind.u8 f_10 16 0 ++ [Value.string
 x_29,
 Value.int
 IntKind.i64
 x_30,
 Value.bool
 x_31,
 Value.bool
 x_32,
 Value.slice
 p
 n
 c,
 Value.string
 x_33])).toArray) ∧
 S
 w' ∧
 CallsS
 Tryz.prog
 25
 #[Value.agg
 (arrI IntKind.u8 f 32 0 ++ (arrI IntKind.u8 f_10 16 0 ++ [Value.string
 x_29,
 Value.int
 IntKind.i64
 x_30,
 Value.bool
 x_31,
 Value.bool
 x_32,
 Value.slice
 p
 n
 c,
 Value.string
 x_33])).toArray]
 w'
 fun
 (e :
 Ending)
 (w' :
 World) =>
 ∃
 (x_34
 :
 Int),
 e =
 Ending.returned
 (Value.int
 IntKind.i64
 x_34) ∧
 S
 w' ∧
 ∃
 (f
 :
 Nat →
 Int),
 ∃
 (f_11
 :
 Nat →
 Int),
 ∃
 (x_35
 :
 ByteArray),
 ∃
 (x_36
 :
 Int),
 ∃
 (x_37
 :
 Bool),
 ∃
 (x_38
 :
 Bool),
 ∃
 (p
 :
 Option
 Addr),
 ∃
 (n
 :
 Nat),
 ∃
 (c
 :
 Nat),
 ∃
 (x_39
 :
 ByteArray),
 gimp
 (true &&
 x ==
 x_34)
 (∀
 (w' :
 World),
 S
 w' →
 AtL
 w'
 n_7
 0
 (arrI IntKind.u8 f 32 0 ++ (arrI IntKind.u8 f_11 16 0 ++ [Value.string
 x_35,
 Value.int
 IntKind.i64
 x_36,
 Value.bool
 x_37,
 Value.bool
 x_38,
 Value.slice
 p
 n
 c,
 Value.string
 x_39]))) ∧
 ∃
 (f_12
 :
 Nat →
 Int),
 ∃
 (f_13
 :
 Nat →
 Int),
 ∃
 (x_40
 :
 ByteArray),
 ∃
 (x_41
 :
 Int),
 ∃
 (x_42
 :
 Bool),
 ∃
 (x_43
 :
 Bool),
 ∃
 (p_6
 :
 Option
 Addr),
 ∃
 (n_10
 :
 Nat),
 ∃
 (c_6
 :
 Nat),
 ∃
 (x_44
 :
 ByteArray),
 gimp
 (true &&
 x ==
 x_34)
 (∀
 (w' :
 World),
 S
 w' →
 AtL
 w'
 n_1
 0
 (arrI IntKind.u8 f_12 32 0 ++ (arrI IntKind.u8 f_13 16 0 ++ [Value.string
 x_40,
 Value.int
 IntKind.i64
 x_41,
 Value.bool
 x_42,
 Value.bool
 x_43,
 Value.slice
 p_6
 n_10
 c_6,
 Value.string
 x_44]))) ∧
 bsp
 (true &&
 x ==
 x_34)
 (CallsS
 Tryz.prog
 23
 #[Value.agg
 (arrI IntKind.u8 f_12 32 0 ++ (arrI IntKind.u8 f_13 16 0 ++ [Value.string
 x_40,
 Value.int
 IntKind.i64
 x_41,
 Value.bool
 x_42,
 Value.bool
 x_43,
 Value.slice
 p_6
 n_10
 c_6,
 Value.string
 x_44])).toArray]
 w'
 fun
 (e :
 Ending)
 (w' :
 World) =>
 ∃
 (f_14
 :
 Nat →
 Int),
 ∃
 (f_15
 :
 Nat →
 Int),
 ∃
 (x
 :
 ByteArray),
 ∃
 (x_45
 :
 Int),
 ∃
 (x_46
 :
 Bool),
 ∃
 (x_47
 :
 Bool),
 ∃
 (p_7
 :
 Option
 Addr),
 ∃
 (n_11
 :
 Nat),
 ∃
 (c_7
 :
 Nat),
 ∃
 (x_48
 :
 ByteArray),
 e =
 Ending.returned
 (Value.agg
 (arrI IntKind.u8 f_14 32 0 ++ (arrI IntKind.u8 f_15 16 0 ++ [Value.string
 x,
 Value.int
 IntKind.i64
 x_45,
 Value.bool
 x_46,
 Value.bool
 x_47,
 Value.slice
 p_7
 n_11
 c_7,
 Value.string
 x_48])).toArray) ∧
 S
 w' ∧
 CallsS
 Tryz.prog
 27
 #[Value.agg
 (arrI IntKind.u8 f 32 0 ++ (arrI IntKind.u8 f_11 16 0 ++ [Value.string
 x_35,
 Value.int
 IntKind.i64
 x_36,
 Value.bool
 x_37,
 Value.bool
 x_38,
 Value.slice
 p
 n
 c,
 Value.string
 x_39])).toArray,
 Value.agg
 (arrI IntKind.u8 f_14 32 0 ++ (arrI IntKind.u8 f_15 16 0 ++ [Value.string
 x,
 Value.int
 IntKind.i64
 x_45,
 Value.bool
 x_46,
 Value.bool
 x_47,
 Value.slice
 p_7
 n_11
 c_7,
 Value.string
 x_48])).toArray]
 w'
 fun
 (e :
 Ending)
 (w' :
 World) =>
 ∃
 (x
 :
 Bool),
 e =
 Ending.returned
 (Value.bool
 x) ∧
 S
 w' ∧
 ∃
 (f
 :
 Nat →
 Int),
 ∃
 (f_16
 :
 Nat →
 Int),
 ∃
 (x_49
 :
 ByteArray),
 ∃
 (x_50
 :
 Int),
 ∃
 (x_51
 :
 Bool),
 ∃
 (x_52
 :
 Bool),
 ∃
 (p
 :
 Option
 Addr),
 ∃
 (n
 :
 Nat),
 ∃
 (c
 :
 Nat),
 ∃
 (x_53
 :
 ByteArray),
 gimp
 (true &&
 x)
 (∀
 (w' :
 World),
 S
 w' →
 AtL
 w'
 n_7
 0
 (arrI IntKind.u8 f 32 0 ++ (arrI IntKind.u8 f_16 16 0 ++ [Value.string
 x_49,
 Value.int
 IntKind.i64
 x_50,
 Value.bool
 x_51,
 Value.bool
 x_52,
 Value.slice
 p
 n
 c,
 Value.string
 x_53]))) ∧
 ∃
 (f_17
 :
 Nat →
 Int),
 ∃
 (f_18
 :
 Nat →
 Int),
 ∃
 (x_54
 :
 ByteArray),
 ∃
 (x_55
 :
 Int),
 ∃
 (x_56
 :
 Bool),
 ∃
 (x_57
 :
 Bool),
 ∃
 (p_8
 :
 Option
 Addr),
 ∃
 (n_12
 :
 Nat),
 ∃
 (c_8
 :
 Nat),
 ∃
 (x_58
 :
 ByteArray),
 gimp
 (true &&
 x)
 (∀
 (w' :
 World),
 S
 w' →
 AtL
 w'
 n_5
 0
 (arrI IntKind.u8 f_17 32 0 ++ (arrI IntKind.u8 f_18 16 0 ++ [Value.string
 x_54,
 Value.int
 IntKind.i64
 x_55,
 Value.bool
 x_56,
 Value.bool
 x_57,
 Value.slice
 p_8
 n_12
 c_8,
 Value.string
 x_58]))) ∧
 ∃
 (f_19
 :
 Nat →
 Int),
 ∃
 (f_20
 :
 Nat →
 Int),
 ∃
 (x_59
 :
 ByteArray),
 ∃
 (x_60
 :
 Int),
 ∃
 (x_61
 :
 Bool),
 ∃
 (x_62
 :
 Bool),
 ∃
 (p_9
 :
 Option
 Addr),
 ∃
 (n_13
 :
 Nat),
 ∃
 (c_9
 :
 Nat),
 ∃
 (x_63
 :
 ByteArray),
 gimp
 (true &&
 x)
 (∀
 (w' :
 World),
 S
 w' →
 AtL
 w'
 n_7
 0
 (arrI IntKind.u8 f_19 32 0 ++ (arrI IntKind.u8 f_20 16 0 ++ [Value.string
 x_59,
 Value.int
 IntKind.i64
 x_60,
 Value.bool
 x_61,
 Value.bool
 x_62,
 Value.slice
 p_9
 n_13
 c_9,
 Value.string
 x_63]))) ∧
 ∃
 (f_21
 :
 Nat →
 Int),
 ∃
 (f_22
 :
 Nat →
 Int),
 ∃
 (x_64
 :
 ByteArray),
 ∃
 (x_65
 :
 Int),
 ∃
 (x_66
 :
 Bool),
 ∃
 (x_67
 :
 Bool),
 ∃
 (p_10
 :
 Option
 Addr),
 ∃
 (n_14
 :
 Nat),
 ∃
 (c_10
 :
 Nat),
 ∃
 (x_68
 :
 ByteArray),
 gimp
 (true &&
 x)
 (∀
 (w' :
 World),
 S
 w' →
 AtL
 w'
 n_5
 0
 (arrI IntKind.u8 f_21 32 0 ++ (arrI IntKind.u8 f_22 16 0 ++ [Value.string
 x_64,
 Value.int
 IntKind.i64
 x_65,
 Value.bool
 x_66,
 Value.bool
 x_67,
 Value.slice
 p_10
 n_14
 c_10,
 Value.string
 x_68]))) ∧
 bsp
 (true &&
 x)
 (CallsS
 Tryz.prog
 27
 #[Value.agg
 (arrI IntKind.u8 f 32 0 ++ (arrI IntKind.u8 f_16 16 0 ++ [Value.string
 x_49,
 Value.int
 IntKind.i64
 x_50,
 Value.bool
 x_51,
 Value.bool
 x_52,
 Value.slice
 p
 n
 c,
 Value.string
 x_53])).toArray,
 Value.agg
 (arrI IntKind.u8 f_17 32 0 ++ (arrI IntKind.u8 f_18 16 0 ++ [Value.string
 x_54,
 Value.int
 IntKind.i64
 x_55,
 Value.bool
 x_56,
 Value.bool
 x_57,
 Value.slice
 p_8
 n_12
 c_8,
 Value.string
 x_58])).toArray]
 w'
 fun
 (e :
 Ending)
 (w' :
 World) =>
 ∃
 (x
 :
 Bool),
 e =
 Ending.returned
 (Value.bool
 x) ∧
 S
 w' ∧
 CallsS
 Tryz.prog
 26
 #[Value.agg
 (arrI IntKind.u8 f_19 32 0 ++ (arrI IntKind.u8 f_20 16 0 ++ [Value.string
 x_59,
 Value.int
 IntKind.i64
 x_60,
 Value.bool
 x_61,
 Value.bool
 x_62,
 Value.slice
 p_9
 n_13
 c_9,
 Value.string
 x_63])).toArray]
 w'
 fun
 (e :
 Ending)
 (w' :
 World) =>
 ∃
 (f
 :
 Nat →
 Int),
 ∃
 (f_23
 :
 Nat →
 Int),
 ∃
 (x_69
 :
 ByteArray),
 ∃
 (x_70
 :
 Int),
 ∃
 (x_71
 :
 Bool),
 ∃
 (x_72
 :
 Bool),
 ∃
 (p
 :
 Option
 Addr),
 ∃
 (n
 :
 Nat),
 ∃
 (c
 :
 Nat),
 ∃
 (x_73
 :
 ByteArray),
 e =
 Ending.returned
 (Value.agg
 (arrI IntKind.u8 f 32 0 ++ (arrI IntKind.u8 f_23 16 0 ++ [Value.string
 x_69,
 Value.int
 IntKind.i64
 x_70,
 Value.bool
 x_71,
 Value.bool
 x_72,
 Value.slice
 p
 n
 c,
 Value.string
 x_73])).toArray) ∧
 S
 w' ∧
 CallsS
 Tryz.prog
 26
 #[Value.agg
 (arrI IntKind.u8 f_21 32 0 ++ (arrI IntKind.u8 f_22 16 0 ++ [Value.string
 x_64,
 Value.int
 IntKind.i64
 x_65,
 Value.bool
 x_66,
 Value.bool
 x_67,
 Value.slice
 p_10
 n_14
 c_10,
 Value.string
 x_68])).toArray]
 w'
 fun
 (e :
 Ending)
 (w' :
 World) =>
 ∃
 (f_24
 :
 Nat →
 Int),
 ∃
 (f_25
 :
 Nat →
 Int),
 ∃
 (x_74
 :
 ByteArray),
 ∃
 (x_75
 :
 Int),
 ∃
 (x_76
 :
 Bool),
 ∃
 (x_77
 :
 Bool),
 ∃
 (p_11
 :
 Option
 Addr),
 ∃
 (n_15
 :
 Nat),
 ∃
 (c_11
 :
 Nat),
 ∃
 (x_78
 :
 ByteArray),
 e =
 Ending.returned
 (Value.agg
 (arrI IntKind.u8 f_24 32 0 ++ (arrI IntKind.u8 f_25 16 0 ++ [Value.string
 x_74,
 Value.int
 IntKind.i64
 x_75,
 Value.bool
 x_76,
 Value.bool
 x_77,
 Value.slice
 p_11
 n_15
 c_11,
 Value.string
 x_78])).toArray) ∧
 CallsS
 Tryz.prog
 28
 #[Value.agg
 (arrI IntKind.u8 f 32 0 ++ (arrI IntKind.u8 f_23 16 0 ++ [Value.string
 x_69,
 Value.int
 IntKind.i64
 x_70,
 Value.bool
 x_71,
 Value.bool
 x_72,
 Value.slice
 p
 n
 c,
 Value.string
 x_73])).toArray,
 Value.agg
 (arrI IntKind.u8 f_24 32 0 ++ (arrI IntKind.u8 f_25 16 0 ++ [Value.string
 x_74,
 Value.int
 IntKind.i64
 x_75,
 Value.bool
 x_76,
 Value.bool
 x_77,
 Value.slice
 p_11
 n_15
 c_11,
 Value.string
 x_78])).toArray]
 w'
 fun
 (e :
 Ending)
 (w' :
 World) =>
 ∃
 (x_79
 :
 Bool),
 e =
 Ending.returned
 (Value.bool
 x_79) ∧
 KeptL
 [n_2,
 n_1]
 W
 w' ∧
 R
 (Ending.returned
 (Value.bool
 (true &&
 x ==
 x_79)))
 w')
 (S
 w' ∧
 S
 w' ∧
 KeptL
 [n_2,
 n_1]
 W
 w' ∧
 R
 (Ending.returned
 (Value.bool
 false))
 w'))
 (S
 w' ∧
 S
 w' ∧
 ∃
 (f
 :
 Nat →
 Int),
 ∃
 (f
 :
 Nat →
 Int),
 ∃
 (x
 :
 ByteArray),
 ∃
 (x
 :
 Int),
 ∃
 (x
 :
 Bool),
 ∃
 (x
 :
 Bool),
 ∃
 (p
 :
 Option
 Addr),
 ∃
 (n
 :
 Nat),
 ∃
 (c
 :
 Nat),
 ∃
 (x
 :
 ByteArray),
 True ∧
 ∃
 (f
 :
 Nat →
 Int),
 ∃
 (f
 :
 Nat →
 Int),
 ∃
 (x
 :
 ByteArray),
 ∃
 (x
 :
 Int),
 ∃
 (x
 :
 Bool),
 ∃
 (x
 :
 Bool),
 ∃
 (p
 :
 Option
 Addr),
 ∃
 (n
 :
 Nat),
 ∃
 (c
 :
 Nat),
 ∃
 (x
 :
 ByteArray),
 True ∧
 ∃
 (f
 :
 Nat →
 Int),
 ∃
 (f
 :
 Nat →
 Int),
 ∃
 (x
 :
 ByteArray),
 ∃
 (x
 :
 Int),
 ∃
 (x
 :
 Bool),
 ∃
 (x
 :
 Bool),
 ∃
 (p
 :
 Option
 Addr),
 ∃
 (n
 :
 Nat),
 ∃
 (c
 :
 Nat),
 ∃
 (x
 :
 ByteArray),
 True ∧
 ∃
 (f
 :
 Nat →
 Int),
 ∃
 (f
 :
 Nat →
 Int),
 ∃
 (x
 :
 ByteArray),
 ∃
 (x
 :
 Int),
 ∃
 (x
 :
 Bool),
 ∃
 (x
 :
 Bool),
 ∃
 (p
 :
 Option
 Addr),
 ∃
 (n
 :
 Nat),
 ∃
 (c
 :
 Nat),
 ∃
 (x
 :
 ByteArray),
 True ∧
 S
 w' ∧
 S
 w' ∧
 KeptL
 [n_2,
 n_1]
 W
 w' ∧
 R
 (Ending.returned
 (Value.bool
 false))
 w'))
 (S w' ∧
 S w' ∧
 S w' ∧
 ∃ (f : Nat → Int),
 ∃ (f :
 Nat → Int),
 ∃ (x :
 ByteArray),
 ∃ (x : Int),
 ∃ (x : Bool),
 ∃ (x : Bool),
 ∃ (p :
 Option
 Addr),
 ∃ (n :
 Nat),
 ∃ (c :
 Nat),
 ∃ (x :
 ByteArray),
 True ∧
 ∃ (f :
 Nat →
 Int),
 ∃ (f :
 Nat →
 Int),
 ∃ (x
 :
 ByteArray),
 ∃ (x
 :
 Int),
 ∃
 (x
 :
 Bool),
 ∃
 (x
 :
 Bool),
 ∃
 (p
 :
 Option
 Addr),
 ∃
 (n
 :
 Nat),
 ∃
 (c
 :
 Nat),
 ∃
 (x
 :
 ByteArray),
 True ∧
 S
 w' ∧
 S
 w' ∧
 ∃
 (f
 :
 Nat →
 Int),
 ∃
 (f
 :
 Nat →
 Int),
 ∃
 (x
 :
 ByteArray),
 ∃
 (x
 :
 Int),
 ∃
 (x
 :
 Bool),
 ∃
 (x
 :
 Bool),
 ∃
 (p
 :
 Option
 Addr),
 ∃
 (n
 :
 Nat),
 ∃
 (c
 :
 Nat),
 ∃
 (x
 :
 ByteArray),
 True ∧
 ∃
 (f
 :
 Nat →
 Int),
 ∃
 (f
 :
 Nat →
 Int),
 ∃
 (x
 :
 ByteArray),
 ∃
 (x
 :
 Int),
 ∃
 (x
 :
 Bool),
 ∃
 (x
 :
 Bool),
 ∃
 (p
 :
 Option
 Addr),
 ∃
 (n
 :
 Nat),
 ∃
 (c
 :
 Nat),
 ∃
 (x
 :
 ByteArray),
 True ∧
 ∃
 (f
 :
 Nat →
 Int),
 ∃
 (f
 :
 Nat →
 Int),
 ∃
 (x
 :
 ByteArray),
 ∃
 (x
 :
 Int),
 ∃
 (x
 :
 Bool),
 ∃
 (x
 :
 Bool),
 ∃
 (p
 :
 Option
 Addr),
 ∃
 (n
 :
 Nat),
 ∃
 (c
 :
 Nat),
 ∃
 (x
 :
 ByteArray),
 True ∧
 ∃
 (f
 :
 Nat →
 Int),
 ∃
 (f
 :
 Nat →
 Int),
 ∃
 (x
 :
 ByteArray),
 ∃
 (x
 :
 Int),
 ∃
 (x
 :
 Bool),
 ∃
 (x
 :
 Bool),
 ∃
 (p
 :
 Option
 Addr),
 ∃
 (n
 :
 Nat),
 ∃
 (c
 :
 Nat),
 ∃
 (x
 :
 ByteArray),
 True ∧
 S
 w' ∧
 S
 w' ∧
 KeptL
 [n_2,
 n_1]
 W
 w' ∧
 R
 (Ending.returned
 (Value.bool
 false))
 w')) ∧
 ∀ (n_6 : Nat) (w1_1 : World),
 NewB w1
 (Obj.cells
 #[Value.int IntKind.u8 0, Value.int IntKind.u8 0, Value.int IntKind.u8 0,
 Value.int IntKind.u8 0, Value.int IntKind.u8 0, Value.int IntKind.u8 0,
 Value.int IntKind.u8 0, Value.int IntKind.u8 0, Value.int IntKind.u8 0,
 Value.int IntKind.u8 0, Value.int IntKind.u8 0, Value.int IntKind.u8 0,
 Value.int IntKind.u8 0, Value.int IntKind.u8 0, Value.int IntKind.u8 0,
 Value.int IntKind.u8 0, Value.int IntKind.u8 0, Value.int IntKind.u8 0,
 Value.int IntKind.u8 0, Value.int IntKind.u8 0, Value.int IntKind.u8 0,
 Value.int IntKind.u8 0, Value.int IntKind.u8 0, Value.int IntKind.u8 0,
 Value.int IntKind.u8 0, Value.int IntKind.u8 0, Value.int IntKind.u8 0,
 Value.int IntKind.u8 0, Value.int IntKind.u8 0, Value.int IntKind.u8 0,
 Value.int IntKind.u8 0, Value.int IntKind.u8 0, Value.int IntKind.u8 0,
 Value.int IntKind.u8 0, Value.int IntKind.u8 0, Value.int IntKind.u8 0,
 Value.int IntKind.u8 0, Value.int IntKind.u8 0, Value.int IntKind.u8 0,
 Value.int IntKind.u8 0, Value.int IntKind.u8 0, Value.int IntKind.u8 0,
 Value.int IntKind.u8 0, Value.int IntKind.u8 0, Value.int IntKind.u8 0,
 Value.int IntKind.u8 0, Value.int IntKind.u8 0, Value.int IntKind.u8 0,
 Value.string (ByteArray.mk #[]), Value.int IntKind.i64 0, Value.bool false,
 Value.bool false, Value.slice none 0 0, Value.string (ByteArray.mk #[])]
 56)
 n_6 w1_1 →
 S w1_1 ∧
 CallsS Tryz.prog 23
 #[Value.agg
 (arrI IntKind.u8 f 32 0 ++ (arrI IntKind.u8 f_1 16 0 ++ [Value.string x,
 Value.int IntKind.i64 x_1, Value.bool x_2, Value.bool x_3,
 Value.slice p_1 n_3 c_1, Value.string x_4])).toArray]
 w1_1 fun (e : Ending) (w' : World) =>
 ∃ (f : Nat → Int),
 ∃ (f_4 : Nat → Int),
 ∃ (x : ByteArray),
 ∃ (x_10 : Int),
 ∃ (x_11 : Bool),
 ∃ (x_12 : Bool),
 ∃ (p_3 : Option Addr),
 ∃ (n_7 : Nat),
 ∃ (c_3 : Nat),
 ∃ (x_13 : ByteArray),
 e =
 Ending.returned
 (Value.agg
 (arrI IntKind.u8 f 32 0 ++ (arrI IntKind.u8 f_4 16 0 ++ [Value.string x, Value.int IntKind.i64 x_10, Value.bool x_11,
 Value.bool x_12, Value.slice p_3 n_7 c_3, Value.string x_13])).toArray) ∧
 S w' ∧
 CallsS Tryz.prog 23
 #[Value.agg
 (arrI IntKind.u8 f_2 32 0 ++ (arrI IntKind.u8 f_3 16 0 ++ [Value.string x_5, Value.int IntKind.i64 x_6, Value.bool x_7,
 Value.bool x_8, Value.slice p_2 n_4 c_2, Value.string x_9])).toArray]
 w' fun (e : Ending) (w' : World) =>
 ∃ (f_5 : Nat → Int),
 ∃ (f_6 : Nat → Int),
 ∃ (x_14 : ByteArray),
 ∃ (x_15 : Int),
 ∃ (x_16 : Bool),
 ∃ (x_17 : Bool),
 ∃ (p_4 : Option Addr),
 ∃ (n_8 : Nat),
 ∃ (c_4 : Nat),
 ∃ (x_18 : ByteArray),
 e =
 Ending.returned
 (Value.agg
 (arrI IntKind.u8 f_5 32 0 ++ (arrI IntKind.u8 f_6 16 0 ++ [Value.string x_14,
 Value.int IntKind.i64 x_15, Value.bool x_16,
 Value.bool x_17, Value.slice p_4 n_8 c_4,
 Value.string x_18])).toArray) ∧
 WrL w' n_6 0 54 ∧
 ∀ (w1 : World),
 PutB w' n_6 0
 (arrI IntKind.u8 f 32 0 ++ (arrI IntKind.u8 f_4 16 0 ++ [Value.string x,
 Value.int IntKind.i64 x_10, Value.bool x_11,
 Value.bool x_12, Value.slice p_3 n_7 c_3,
 Value.string x_13]))
 w1 →
 WrL w1 n_5 0 54 ∧
 ∀ (w1_2 : World),
 PutB w1 n_5 0
 (arrI IntKind.u8 f_5 32 0 ++ (arrI IntKind.u8 f_6 16 0 ++ [Value.string x_14,
 Value.int IntKind.i64 x_15, Value.bool x_16,
 Value.bool x_17, Value.slice p_4 n_8 c_4,
 Value.string x_18]))
 w1_2 →
 KeptL [n_2, n_1] W w1_2 ∧
 ∀ (W : World),
 Loc w.heap.size
 [Blk.mk n_2 50
 (arrI IntKind.u8 id2 32 0 ++ (arrI IntKind.u8 au2 16 0 ++ [Value.string g2,
 Value.int IntKind.i64 v2, Value.bool rm2,
 Value.bool md2, Value.slice p2 n2 c2,
 Value.string t2]))
 0,
 Blk.mk n_1 50
 (arrI IntKind.u8 id 32 0 ++ (arrI IntKind.u8 au 16 0 ++ [Value.string g,
 Value.int IntKind.i64 v, Value.bool rm,
 Value.bool md, Value.slice p n c,
 Value.string t]))
 0]
 w1_2 W →
 ∃ (S : World → Prop),
 S W ∧
 CallsS Tryz.prog 15 #[] W
 fun (e : Ending) (w' : World) =>
 ∃ (x : Bool),
 e = Ending.returned (Value.bool x) ∧
 S w' ∧
 ∃ (f : Nat → Int),
 ∃ (f_7 : Nat → Int),
 ∃ (x_19 : ByteArray),
 ∃ (x_20 : Int),
 ∃ (x_21 : Bool),
 ∃ (x_22 : Bool),
 ∃ (p : Option Addr),
 ∃ (n : Nat),
 ∃ (c : Nat),
 ∃ (x_23 : ByteArray),
 gimp x
 (∀ (w' : World),
 S w' →
 AtL w' n_6 0
 (arrI IntKind.u8 f 32 0 ++ (arrI IntKind.u8 f_7 16 0 ++ [Value.string x_19,
 Value.int IntKind.i64 x_20,
 Value.bool x_21,
 Value.bool x_22,
 Value.slice p n c,
 Value.string x_23]))) ∧
 ∃ (f_8 : Nat → Int),
 ∃ (f_9 : Nat → Int),
 ∃ (x_24 : ByteArray),
 ∃ (x_25 : Int),
 ∃ (x_26 : Bool),
 ∃ (x_27 : Bool),
 ∃ (p_5 : Option Addr),
 ∃ (n_9 : Nat),
 ∃ (c_5 : Nat),
 ∃ (x_28 : ByteArray),
 gimp x
 (∀ (w' : World),
 S w' →
 AtL w' n_6 0
 (arrI IntKind.u8 f_8 32 0 ++ (arrI IntKind.u8 f_9 16 0 ++ [Value.string x_24,
 Value.int
 IntKind.i64 x_25,
 Value.bool x_26,
 Value.bool x_27,
 Value.slice p_5
 n_9 c_5,
 Value.string
 x_28]))) ∧
 bsp x
 (CallsS Tryz.prog 24
 #[Value.agg
 (arrI IntKind.u8 f 32 0 ++ (arrI IntKind.u8 f_7 16 0 ++ [Value.string x_19,
 Value.int
 IntKind.i64 x_20,
 Value.bool x_21,
 Value.bool x_22,
 Value.slice p n c,
 Value.string
 x_23])).toArray]
 w'
 fun (e : Ending)
 (w' : World) =>
 ∃ (x : Int),
 e =
 Ending.returned
 (Value.int
 IntKind.i64 x) ∧
 S w' ∧
 CallsS Tryz.prog
 26
 #[Value.agg
 (arrI IntKind.u8 f_8 32 0 ++ (arrI IntKind.u8 f_9 16 0 ++ [Value.string
 x_24,
 Value.int
 IntKind.i64
 x_25,
 Value.bool
 x_26,
 Value.bool
 x_27,
 Value.slice
 p_5 n_9 c_5,
 Value.string
 x_28])).toArray]
 w'
 fun (e : Ending)
 (w' : World) =>
 ∃ (f :
 Nat → Int),
 ∃ (f_10 :
 Nat → Int),
 ∃ (x_29 :
 ByteArray),
 ∃ (x_30 :
 Int),
 ∃ (x_31 :
 Bool),
 ∃ (x_32 :
 Bool),
 ∃ (p :
 Option
 Addr),
 ∃ (n :
 Nat),
 ∃ (c :
 Nat),
 ∃ (x_33
 :
 ByteArray),
 e =
 Ending.returned
 (Value.agg
 (arrI IntKind.u8 f 32 0 ++ (arrI IntKind.u8 f_10 16 0 ++ [Value.string
 x_29,
 Value.int
 IntKind.i64
 x_30,
 Value.bool
 x_31,
 Value.bool
 x_32,
 Value.slice
 p
 n
 c,
 Value.string
 x_33])).toArray) ∧
 S w' ∧
 CallsS
 Tryz.prog
 25
 #[Value.agg
 (arrI IntKind.u8 f 32 0 ++ (arrI IntKind.u8 f_10 16 0 ++ [Value.string
 x_29,
 Value.int
 IntKind.i64
 x_30,
 Value.bool
 x_31,
 Value.bool
 x_32,
 Value.slice
 p
 n
 c,
 Value.string
 x_33])).toArray]
 w'
 fun
 (e :
 Ending)
 (w' :
 World) =>
 ∃
 (x_34
 :
 Int),
 e =
 Ending.returned
 (Value.int
 IntKind.i64
 x_34) ∧
 S
 w' ∧
 ∃
 (f
 :
 Nat →
 Int),
 ∃
 (f_11
 :
 Nat →
 Int),
 ∃
 (x_35
 :
 ByteArray),
 ∃
 (x_36
 :
 Int),
 ∃
 (x_37
 :
 Bool),
 ∃
 (x_38
 :
 Bool),
 ∃
 (p
 :
 Option
 Addr),
 ∃
 (n
 :
 Nat),
 ∃
 (c
 :
 Nat),
 ∃
 (x_39
 :
 ByteArray),
 gimp
 (true &&
 x ==
 x_34)
 (∀
 (w' :
 World),
 S
 w' →
 AtL
 w'
 n_6
 0
 (arrI IntKind.u8 f 32 0 ++ (arrI IntKind.u8 f_11 16 0 ++ [Value.string
 x_35,
 Value.int
 IntKind.i64
 x_36,
 Value.bool
 x_37,
 Value.bool
 x_38,
 Value.slice
 p
 n
 c,
 Value.string
 x_39]))) ∧
 ∃
 (f_12
 :
 Nat →
 Int),
 ∃
 (f_13
 :
 Nat →
 Int),
 ∃
 (x_40
 :
 ByteArray),
 ∃
 (x_41
 :
 Int),
 ∃
 (x_42
 :
 Bool),
 ∃
 (x_43
 :
 Bool),
 ∃
 (p_6
 :
 Option
 Addr),
 ∃
 (n_10
 :
 Nat),
 ∃
 (c_6
 :
 Nat),
 ∃
 (x_44
 :
 ByteArray),
 gimp
 (true &&
 x ==
 x_34)
 (∀
 (w' :
 World),
 S
 w' →
 AtL
 w'
 n_1
 0
 (arrI IntKind.u8 f_12 32 0 ++ (arrI IntKind.u8 f_13 16 0 ++ [Value.string
 x_40,
 Value.int
 IntKind.i64
 x_41,
 Value.bool
 x_42,
 Value.bool
 x_43,
 Value.slice
 p_6
 n_10
 c_6,
 Value.string
 x_44]))) ∧
 bsp
 (true &&
 x ==
 x_34)
 (CallsS
 Tryz.prog
 23
 #[Value.agg
 (arrI IntKind.u8 f_12 32 0 ++ (arrI IntKind.u8 f_13 16 0 ++ [Value.string
 x_40,
 Value.int
 IntKind.i64
 x_41,
 Value.bool
 x_42,
 Value.bool
 x_43,
 Value.slice
 p_6
 n_10
 c_6,
 Value.string
 x_44])).toArray]
 w'
 fun
 (e :
 Ending)
 (w' :
 World) =>
 ∃
 (f_14
 :
 Nat →
 Int),
 ∃
 (f_15
 :
 Nat →
 Int),
 ∃
 (x
 :
 ByteArray),
 ∃
 (x_45
 :
 Int),
 ∃
 (x_46
 :
 Bool),
 ∃
 (x_47
 :
 Bool),
 ∃
 (p_7
 :
 Option
 Addr),
 ∃
 (n_11
 :
 Nat),
 ∃
 (c_7
 :
 Nat),
 ∃
 (x_48
 :
 ByteArray),
 e =
 Ending.returned
 (Value.agg
 (arrI IntKind.u8 f_14 32 0 ++ (arrI IntKind.u8 f_15 16 0 ++ [Value.string
 x,
 Value.int
 IntKind.i64
 x_45,
 Value.bool
 x_46,
 Value.bool
 x_47,
 Value.slice
 p_7
 n_11
 c_7,
 Value.string
 x_48])).toArray) ∧
 S
 w' ∧
 CallsS
 Tryz.prog
 27
 #[Value.agg
 (arrI IntKind.u8 f 32 0 ++ (arrI IntKind.u8 f_11 16 0 ++ [Value.string
 x_35,
 Value.int
 IntKind.i64
 x_36,
 Value.bool
 x_37,
 Value.bool
 x_38,
 Value.slice
 p
 n
 c,
 Value.string
 x_39])).toArray,
 Value.agg
 (arrI IntKind.u8 f_14 32 0 ++ (arrI IntKind.u8 f_15 16 0 ++ [Value.string
 x,
 Value.int
 IntKind.i64
 x_45,
 Value.bool
 x_46,
 Value.bool
 x_47,
 Value.slice
 p_7
 n_11
 c_7,
 Value.string
 x_48])).toArray]
 w'
 fun
 (e :
 Ending)
 (w' :
 World) =>
 ∃
 (x
 :
 Bool),
 e =
 Ending.returned
 (Value.bool
 x) ∧
 S
 w' ∧
 ∃
 (f
 :
 Nat →
 Int),
 ∃
 (f_16
 :
 Nat →
 Int),
 ∃
 (x_49
 :
 ByteArray),
 ∃
 (x_50
 :
 Int),
 ∃
 (x_51
 :
 Bool),
 ∃
 (x_52
 :
 Bool),
 ∃
 (p
 :
 Option
 Addr),
 ∃
 (n
 :
 Nat),
 ∃
 (c
 :
 Nat),
 ∃
 (x_53
 :
 ByteArray),
 gimp
 (true &&
 x)
 (∀
 (w' :
 World),
 S
 w' →
 AtL
 w'
 n_6
 0
 (arrI IntKind.u8 f 32 0 ++ (arrI IntKind.u8 f_16 16 0 ++ [Value.string
 x_49,
 Value.int
 IntKind.i64
 x_50,
 Value.bool
 x_51,
 Value.bool
 x_52,
 Value.slice
 p
 n
 c,
 Value.string
 x_53]))) ∧
 ∃
 (f_17
 :
 Nat →
 Int),
 ∃
 (f_18
 :
 Nat →
 Int),
 ∃
 (x_54
 :
 ByteArray),
 ∃
 (x_55
 :
 Int),
 ∃
 (x_56
 :
 Bool),
 ∃
 (x_57
 :
 Bool),
 ∃
 (p_8
 :
 Option
 Addr),
 ∃
 (n_12
 :
 Nat),
 ∃
 (c_8
 :
 Nat),
 ∃
 (x_58
 :
 ByteArray),
 gimp
 (true &&
 x)
 (∀
 (w' :
 World),
 S
 w' →
 AtL
 w'
 n_5
 0
 (arrI IntKind.u8 f_17 32 0 ++ (arrI IntKind.u8 f_18 16 0 ++ [Value.string
 x_54,
 Value.int
 IntKind.i64
 x_55,
 Value.bool
 x_56,
 Value.bool
 x_57,
 Value.slice
 p_8
 n_12
 c_8,
 Value.string
 x_58]))) ∧
 ∃
 (f_19
 :
 Nat →
 Int),
 ∃
 (f_20
 :
 Nat →
 Int),
 ∃
 (x_59
 :
 ByteArray),
 ∃
 (x_60
 :
 Int),
 ∃
 (x_61
 :
 Bool),
 ∃
 (x_62
 :
 Bool),
 ∃
 (p_9
 :
 Option
 Addr),
 ∃
 (n_13
 :
 Nat),
 ∃
 (c_9
 :
 Nat),
 ∃
 (x_63
 :
 ByteArray),
 gimp
 (true &&
 x)
 (∀
 (w' :
 World),
 S
 w' →
 AtL
 w'
 n_6
 0
 (arrI IntKind.u8 f_19 32 0 ++ (arrI IntKind.u8 f_20 16 0 ++ [Value.string
 x_59,
 Value.int
 IntKind.i64
 x_60,
 Value.bool
 x_61,
 Value.bool
 x_62,
 Value.slice
 p_9
 n_13
 c_9,
 Value.string
 x_63]))) ∧
 ∃
 (f_21
 :
 Nat →
 Int),
 ∃
 (f_22
 :
 Nat →
 Int),
 ∃
 (x_64
 :
 ByteArray),
 ∃
 (x_65
 :
 Int),
 ∃
 (x_66
 :
 Bool),
 ∃
 (x_67
 :
 Bool),
 ∃
 (p_10
 :
 Option
 Addr),
 ∃
 (n_14
 :
 Nat),
 ∃
 (c_10
 :
 Nat),
 ∃
 (x_68
 :
 ByteArray),
 gimp
 (true &&
 x)
 (∀
 (w' :
 World),
 S
 w' →
 AtL
 w'
 n_5
 0
 (arrI IntKind.u8 f_21 32 0 ++ (arrI IntKind.u8 f_22 16 0 ++ [Value.string
 x_64,
 Value.int
 IntKind.i64
 x_65,
 Value.bool
 x_66,
 Value.bool
 x_67,
 Value.slice
 p_10
 n_14
 c_10,
 Value.string
 x_68]))) ∧
 bsp
 (true &&
 x)
 (CallsS
 Tryz.prog
 27
 #[Value.agg
 (arrI IntKind.u8 f 32 0 ++ (arrI IntKind.u8 f_16 16 0 ++ [Value.string
 x_49,
 Value.int
 IntKind.i64
 x_50,
 Value.bool
 x_51,
 Value.bool
 x_52,
 Value.slice
 p
 n
 c,
 Value.string
 x_53])).toArray,
 Value.agg
 (arrI IntKind.u8 f_17 32 0 ++ (arrI IntKind.u8 f_18 16 0 ++ [Value.string
 x_54,
 Value.int
 IntKind.i64
 x_55,
 Value.bool
 x_56,
 Value.bool
 x_57,
 Value.slice
 p_8
 n_12
 c_8,
 Value.string
 x_58])).toArray]
 w'
 fun
 (e :
 Ending)
 (w' :
 World) =>
 ∃
 (x
 :
 Bool),
 e =
 Ending.returned
 (Value.bool
 x) ∧
 S
 w' ∧
 CallsS
 Tryz.prog
 26
 #[Value.agg
 (arrI IntKind.u8 f_19 32 0 ++ (arrI IntKind.u8 f_20 16 0 ++ [Value.string
 x_59,
 Value.int
 IntKind.i64
 x_60,
 Value.bool
 x_61,
 Value.bool
 x_62,
 Value.slice
 p_9
 n_13
 c_9,
 Value.string
 x_63])).toArray]
 w'
 fun
 (e :
 Ending)
 (w' :
 World) =>
 ∃
 (f
 :
 Nat →
 Int),
 ∃
 (f_23
 :
 Nat →
 Int),
 ∃
 (x_69
 :
 ByteArray),
 ∃
 (x_70
 :
 Int),
 ∃
 (x_71
 :
 Bool),
 ∃
 (x_72
 :
 Bool),
 ∃
 (p
 :
 Option
 Addr),
 ∃
 (n
 :
 Nat),
 ∃
 (c
 :
 Nat),
 ∃
 (x_73
 :
 ByteArray),
 e =
 Ending.returned
 (Value.agg
 (arrI IntKind.u8 f 32 0 ++ (arrI IntKind.u8 f_23 16 0 ++ [Value.string
 x_69,
 Value.int
 IntKind.i64
 x_70,
 Value.bool
 x_71,
 Value.bool
 x_72,
 Value.slice
 p
 n
 c,
 Value.string
 x_73])).toArray) ∧
 S
 w' ∧
 CallsS
 Tryz.prog
 26
 #[Value.agg
 (arrI IntKind.u8 f_21 32 0 ++ (arrI IntKind.u8 f_22 16 0 ++ [Value.string
 x_64,
 Value.int
 IntKind.i64
 x_65,
 Value.bool
 x_66,
 Value.bool
 x_67,
 Value.slice
 p_10
 n_14
 c_10,
 Value.string
 x_68])).toArray]
 w'
 fun
 (e :
 Ending)
 (w' :
 World) =>
 ∃
 (f_24
 :
 Nat →
 Int),
 ∃
 (f_25
 :
 Nat →
 Int),
 ∃
 (x_74
 :
 ByteArray),
 ∃
 (x_75
 :
 Int),
 ∃
 (x_76
 :
 Bool),
 ∃
 (x_77
 :
 Bool),
 ∃
 (p_11
 :
 Option
 Addr),
 ∃
 (n_15
 :
 Nat),
 ∃
 (c_11
 :
 Nat),
 ∃
 (x_78
 :
 ByteArray),
 e =
 Ending.returned
 (Value.agg
 (arrI IntKind.u8 f_24 32 0 ++ (arrI IntKind.u8 f_25 16 0 ++ [Value.string
 x_74,
 Value.int
 IntKind.i64
 x_75,
 Value.bool
 x_76,
 Value.bool
 x_77,
 Value.slice
 p_11
 n_15
 c_11,
 Value.string
 x_78])).toArray) ∧
 CallsS
 Tryz.prog
 28
 #[Value.agg
 (arrI IntKind.u8 f 32 0 ++ (arrI IntKind.u8 f_23 16 0 ++ [Value.string
 x_69,
 Value.int
 IntKind.i64
 x_70,
 Value.bool
 x_71,
 Value.bool
 x_72,
 Value.slice
 p
 n
 c,
 Value.string
 x_73])).toArray,
 Value.agg
 (arrI IntKind.u8 f_24 32 0 ++ (arrI IntKind.u8 f_25 16 0 ++ [Value.string
 x_74,
 Value.int
 IntKind.i64
 x_75,
 Value.bool
 x_76,
 Value.bool
 x_77,
 Value.slice
 p_11
 n_15
 c_11,
 Value.string
 x_78])).toArray]
 w'
 fun
 (e :
 Ending)
 (w' :
 World) =>
 ∃
 (x_79
 :
 Bool),
 e =
 Ending.returned
 (Value.bool
 x_79) ∧
 KeptL
 [n_2,
 n_1]
 W
 w' ∧
 R
 (Ending.returned
 (Value.bool
 (true &&
 x ==
 x_79)))
 w')
 (S
 w' ∧
 S
 w' ∧
 KeptL
 [n_2,
 n_1]
 W
 w' ∧
 R
 (Ending.returned
 (Value.bool
 false))
 w'))
 (S
 w' ∧
 S
 w' ∧
 ∃
 (f
 :
 Nat →
 Int),
 ∃
 (f
 :
 Nat →
 Int),
 ∃
 (x
 :
 ByteArray),
 ∃
 (x
 :
 Int),
 ∃
 (x
 :
 Bool),
 ∃
 (x
 :
 Bool),
 ∃
 (p
 :
 Option
 Addr),
 ∃
 (n
 :
 Nat),
 ∃
 (c
 :
 Nat),
 ∃
 (x
 :
 ByteArray),
 True ∧
 ∃
 (f
 :
 Nat →
 Int),
 ∃
 (f
 :
 Nat →
 Int),
 ∃
 (x
 :
 ByteArray),
 ∃
 (x
 :
 Int),
 ∃
 (x
 :
 Bool),
 ∃
 (x
 :
 Bool),
 ∃
 (p
 :
 Option
 Addr),
 ∃
 (n
 :
 Nat),
 ∃
 (c
 :
 Nat),
 ∃
 (x
 :
 ByteArray),
 True ∧
 ∃
 (f
 :
 Nat →
 Int),
 ∃
 (f
 :
 Nat →
 Int),
 ∃
 (x
 :
 ByteArray),
 ∃
 (x
 :
 Int),
 ∃
 (x
 :
 Bool),
 ∃
 (x
 :
 Bool),
 ∃
 (p
 :
 Option
 Addr),
 ∃
 (n
 :
 Nat),
 ∃
 (c
 :
 Nat),
 ∃
 (x
 :
 ByteArray),
 True ∧
 ∃
 (f
 :
 Nat →
 Int),
 ∃
 (f
 :
 Nat →
 Int),
 ∃
 (x
 :
 ByteArray),
 ∃
 (x
 :
 Int),
 ∃
 (x
 :
 Bool),
 ∃
 (x
 :
 Bool),
 ∃
 (p
 :
 Option
 Addr),
 ∃
 (n
 :
 Nat),
 ∃
 (c
 :
 Nat),
 ∃
 (x
 :
 ByteArray),
 True ∧
 S
 w' ∧
 S
 w' ∧
 KeptL
 [n_2,
 n_1]
 W
 w' ∧
 R
 (Ending.returned
 (Value.bool
 false))
 w'))
 (S w' ∧
 S w' ∧
 S w' ∧
 ∃ (f : Nat → Int),
 ∃ (f : Nat → Int),
 ∃ (x :
 ByteArray),
 ∃ (x : Int),
 ∃ (x : Bool),
 ∃ (x : Bool),
 ∃ (p :
 Option
 Addr),
 ∃ (n : Nat),
 ∃ (c :
 Nat),
 ∃ (x :
 ByteArray),
 True ∧
 ∃ (f :
 Nat →
 Int),
 ∃ (f :
 Nat →
 Int),
 ∃ (x :
 ByteArray),
 ∃ (x
 :
 Int),
 ∃ (x
 :
 Bool),
 ∃
 (x
 :
 Bool),
 ∃
 (p
 :
 Option
 Addr),
 ∃
 (n
 :
 Nat),
 ∃
 (c
 :
 Nat),
 ∃
 (x
 :
 ByteArray),
 True ∧
 S
 w' ∧
 S
 w' ∧
 ∃
 (f
 :
 Nat →
 Int),
 ∃
 (f
 :
 Nat →
 Int),
 ∃
 (x
 :
 ByteArray),
 ∃
 (x
 :
 Int),
 ∃
 (x
 :
 Bool),
 ∃
 (x
 :
 Bool),
 ∃
 (p
 :
 Option
 Addr),
 ∃
 (n
 :
 Nat),
 ∃
 (c
 :
 Nat),
 ∃
 (x
 :
 ByteArray),
 True ∧
 ∃
 (f
 :
 Nat →
 Int),
 ∃
 (f
 :
 Nat →
 Int),
 ∃
 (x
 :
 ByteArray),
 ∃
 (x
 :
 Int),
 ∃
 (x
 :
 Bool),
 ∃
 (x
 :
 Bool),
 ∃
 (p
 :
 Option
 Addr),
 ∃
 (n
 :
 Nat),
 ∃
 (c
 :
 Nat),
 ∃
 (x
 :
 ByteArray),
 True ∧
 ∃
 (f
 :
 Nat →
 Int),
 ∃
 (f
 :
 Nat →
 Int),
 ∃
 (x
 :
 ByteArray),
 ∃
 (x
 :
 Int),
 ∃
 (x
 :
 Bool),
 ∃
 (x
 :
 Bool),
 ∃
 (p
 :
 Option
 Addr),
 ∃
 (n
 :
 Nat),
 ∃
 (c
 :
 Nat),
 ∃
 (x
 :
 ByteArray),
 True ∧
 ∃
 (f
 :
 Nat →
 Int),
 ∃
 (f
 :
 Nat →
 Int),
 ∃
 (x
 :
 ByteArray),
 ∃
 (x
 :
 Int),
 ∃
 (x
 :
 Bool),
 ∃
 (x
 :
 Bool),
 ∃
 (p
 :
 Option
 Addr),
 ∃
 (n
 :
 Nat),
 ∃
 (c
 :
 Nat),
 ∃
 (x
 :
 ByteArray),
 True ∧
 S
 w' ∧
 S
 w' ∧
 KeptL
 [n_2,
 n_1]
 W
 w' ∧
 R
 (Ending.returned
 (Value.bool
 false))
 w')
theorem vc_lrchecks (id : Nat → Int) (au : Nat → Int) (g : ByteArray) (v : Int) (rm : Bool) (md : Bool) (p : Option Addr) (n : Nat) (c : Nat) (t : ByteArray) (id2 : Nat → Int) (au2 : Nat → Int) (g2 : ByteArray) (v2 : Int) (rm2 : Bool) (md2 : Bool) (p2 : Option Addr) (n2 : Nat) (c2 : Nat) (t2 : ByteArray) (w : World) (R : Ending → World → Prop) (h : VC_lrchecks id au g v rm md p n c t id2 au2 g2 v2 rm2 md2 p2 n2 c2 t2 w R) : Calls Tryz.prog 6 ([Value.agg
    (arrI IntKind.u8 id 32 0 ++
        (arrI IntKind.u8 au 16 0 ++
          [Value.string g, Value.int IntKind.i64 v, Value.bool rm, Value.bool md, Value.slice p n c,
            Value.string t])).toArray,
  Value.agg
    (arrI IntKind.u8 id2 32 0 ++
        (arrI IntKind.u8 au2 16 0 ++
          [Value.string g2, Value.int IntKind.i64 v2, Value.bool rm2, Value.bool md2, Value.slice p2 n2 c2,
            Value.string t2])).toArray] : List Value).toArray w R := by
  have e : execR2 { P := Tryz.prog, loops := [], pur := pur1, tails := [(1, 1), (2, 0)], joins := [], boxes := [] } Tryz.f6.results.toList R (Tryz.f6.body.getD .skip) (initF [Value.agg
    (arrI IntKind.u8 id 32 0 ++
        (arrI IntKind.u8 au 16 0 ++
          [Value.string g, Value.int IntKind.i64 v, Value.bool rm, Value.bool md, Value.slice p n c,
            Value.string t])).toArray,
  Value.agg
    (arrI IntKind.u8 id2 32 0 ++
        (arrI IntKind.u8 au2 16 0 ++
          [Value.string g2, Value.int IntKind.i64 v2, Value.bool rm2, Value.bool md2, Value.slice p2 n2 c2,
            Value.string
              t2])).toArray] (Tryz.f6.ntmps - ([Value.agg
    (arrI IntKind.u8 id 32 0 ++
        (arrI IntKind.u8 au 16 0 ++
          [Value.string g, Value.int IntKind.i64 v, Value.bool rm, Value.bool md, Value.slice p n c,
            Value.string t])).toArray,
  Value.agg
    (arrI IntKind.u8 id2 32 0 ++
        (arrI IntKind.u8 au2 16 0 ++
          [Value.string g2, Value.int IntKind.i64 v2, Value.bool rm2, Value.bool md2, Value.slice p2 n2 c2,
            Value.string
              t2])).toArray] : List Value).length)) w = VC_lrchecks id au g v rm md p n c t id2 au2 g2 v2 rm2 md2 p2 n2 c2 t2 w R := by kernel_rfl
  have hb : Tryz.f6.body = some (Tryz.f6.body.getD .skip) := by kernel_rfl
  exact calls_of_exec2' (P := Tryz.prog) (fn := Tryz.f6) (c := Tryz.f6.body.getD .skip) (args := [Value.agg
    (arrI IntKind.u8 id 32 0 ++
        (arrI IntKind.u8 au 16 0 ++
          [Value.string g, Value.int IntKind.i64 v, Value.bool rm, Value.bool md, Value.slice p n c,
            Value.string t])).toArray,
  Value.agg
    (arrI IntKind.u8 id2 32 0 ++
        (arrI IntKind.u8 au2 16 0 ++
          [Value.string g2, Value.int IntKind.i64 v2, Value.bool rm2, Value.bool md2, Value.slice p2 n2 c2,
            Value.string t2])).toArray]) (w := w) (R := R) pur1_ok Tryz.func6 hb e h

end Go.Proofs.YtkkfnlehlkiejaaGreatDoor
