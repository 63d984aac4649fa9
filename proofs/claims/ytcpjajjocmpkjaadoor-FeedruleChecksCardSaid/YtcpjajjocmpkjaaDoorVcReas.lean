/- The formulas of functions by the symbolic evaluator, and that each gives the call's contract. Written by a program (gen.py). No condition. -/
import Derived.Test.YtcpjajjocmpkjaaDoorProg
import Derived.Test.YtcpjajjocmpkjaaDoorSound
import Derived.Test.YtcpjajjocmpkjaaDoorPur1
import Derived.KernelRfl
namespace Go.Proofs.YtcpjajjocmpkjaaDoor
set_option maxRecDepth 100000
set_option linter.unusedVariables false

def VC_reasA (b : Nat) (o : Nat) (b1 : Nat) (o1 : Nat) (w : World) (R : Ending → World → Prop) : Prop :=
 ∃ (x : ByteArray),
 w.drew.cell? (Addr.mk b (o + 36) none) = some (Value.string x) ∧
 ∃ (x_1 : Option Addr),
 w.drew.cell? (Addr.mk b1 o1 none) = some (Value.pointer x_1) ∧
 nn true x_1 fun (b o : Nat) =>
 ∃ (x_2 : ByteArray),
 w.drew.cell? (Addr.mk b o none) = some (Value.string x_2) ∧
 R (Ending.returned (Value.bool (x.toList == x_2.toList))) w.drew
theorem vc_reasA (b : Nat) (o : Nat) (b1 : Nat) (o1 : Nat) (w : World) (R : Ending → World → Prop) (h : VC_reasA b o b1 o1 w R) : Calls Tryd.prog 37 ([Value.pointer
    (some { block := b, off := o }),
  Value.pointer (some { block := b1, off := o1 })] : List Value).toArray w R := by
  have e : execR { P := Tryd.prog, loops := [], pur := pur1, tails := [], joins := [], boxes := [] } Tryd.f37.results.toList R (Tryd.f37.body.getD .skip) (initF [Value.pointer
    (some { block := b, off := o }),
  Value.pointer
    (some
      { block := b1,
        off :=
          o1 })] (Tryd.f37.ntmps - ([Value.pointer (some { block := b, off := o }),
  Value.pointer (some { block := b1, off := o1 })] : List Value).length)) w = VC_reasA b o b1 o1 w R := by kernel_rfl
  have hb : Tryd.f37.body = some (Tryd.f37.body.getD .skip) := by kernel_rfl
  exact calls_of_exec' (P := Tryd.prog) (fn := Tryd.f37) (c := Tryd.f37.body.getD .skip) (args := [Value.pointer
    (some { block := b, off := o }),
  Value.pointer (some { block := b1, off := o1 })]) (w := w) (R := R) pur1_ok Tryd.func37 hb e h

def VC_reasB (b : Nat) (o : Nat) (b1 : Nat) (o1 : Nat) (w : World) (R : Ending → World → Prop) : Prop :=
 ∃ (x : Bool),
 w.drew.cell? (Addr.mk b (o + 35) none) = some (Value.bool x) ∧
 ∃ (x_1 : Option Addr),
 gimp (!x) (w.drew.cell? (Addr.mk b1 o1 none) = some (Value.pointer x_1)) ∧
 nn (!x) x_1 fun (b_1 o_1 : Nat) =>
 ∃ (x_2 : Option Addr),
 gimp (!x) (w.drew.cell? (Addr.mk b_1 (o_1 + 5) none) = some (Value.pointer x_2)) ∧
 ∃ (p : Option Addr),
 ∃ (n : Nat),
 ∃ (c : Nat),
 gimp (!x) (w.drew.cell? (Addr.mk b (o + 32) none) = some (Value.slice p n c)) ∧
 bsp (!x)
 (CallsS Tryd.prog 39 #[Value.pointer x_2, Value.slice p n c] w.drew fun (e : Ending) (w' : World) =>
 ∃ (x : Bool), e = Ending.returned (Value.bool x) ∧ R (Ending.returned (Value.bool (true && !x))) w')
 (R (Ending.returned (Value.bool false)) w.drew)
theorem vc_reasB (b : Nat) (o : Nat) (b1 : Nat) (o1 : Nat) (w : World) (R : Ending → World → Prop) (h : VC_reasB b o b1 o1 w R) : Calls Tryd.prog 38 ([Value.pointer
    (some { block := b, off := o }),
  Value.pointer (some { block := b1, off := o1 })] : List Value).toArray w R := by
  have e : execR { P := Tryd.prog, loops := [], pur := pur1, tails := [(1, 10)], joins := [], boxes := [] } Tryd.f38.results.toList R (Tryd.f38.body.getD .skip) (initF [Value.pointer
    (some { block := b, off := o }),
  Value.pointer
    (some
      { block := b1,
        off :=
          o1 })] (Tryd.f38.ntmps - ([Value.pointer (some { block := b, off := o }),
  Value.pointer (some { block := b1, off := o1 })] : List Value).length)) w = VC_reasB b o b1 o1 w R := by kernel_rfl
  have hb : Tryd.f38.body = some (Tryd.f38.body.getD .skip) := by kernel_rfl
  exact calls_of_exec' (P := Tryd.prog) (fn := Tryd.f38) (c := Tryd.f38.body.getD .skip) (args := [Value.pointer
    (some { block := b, off := o }),
  Value.pointer (some { block := b1, off := o1 })]) (w := w) (R := R) pur1_ok Tryd.func38 hb e h

def VC_reasC (b : Nat) (o : Nat) (b1 : Nat) (o1 : Nat) (w : World) (R : Ending → World → Prop) : Prop :=
 ∃ (x : Bool),
 w.drew.cell? (Addr.mk b (o + 35) none) = some (Value.bool x) ∧
 ∃ (x_1 : Option Addr),
 gimp (!x) (w.drew.cell? (Addr.mk b1 o1 none) = some (Value.pointer x_1)) ∧
 nn (!x) x_1 fun (b_1 o_1 : Nat) =>
 ∃ (x_2 : Int),
 gimp (!x) (w.drew.cell? (Addr.mk b_1 (o_1 + 2) none) = some (Value.int IntKind.i64 x_2)) ∧
 ∃ (x_3 : Option Addr),
 gimp (!x && x_2 != 0) (w.drew.cell? (Addr.mk b1 o1 none) = some (Value.pointer x_3)) ∧
 nn (!x && x_2 != 0) x_3 fun (b_2 o_2 : Nat) =>
 ∃ (x_4 : Int),
 gimp (!x && x_2 != 0) (w.drew.cell? (Addr.mk b_2 (o_2 + 2) none) = some (Value.int IntKind.i64 x_4)) ∧
 ∃ (x_5 : Int),
 gimp (!x && x_2 != 0) (w.drew.cell? (Addr.mk b (o + 34) none) = some (Value.int IntKind.i64 x_5)) ∧
 R (Ending.returned (Value.bool (!x && x_2 != 0 && decide (x_4 < x_5)))) w.drew
theorem vc_reasC (b : Nat) (o : Nat) (b1 : Nat) (o1 : Nat) (w : World) (R : Ending → World → Prop) (h : VC_reasC b o b1 o1 w R) : Calls Tryd.prog 40 ([Value.pointer
    (some { block := b, off := o }),
  Value.pointer (some { block := b1, off := o1 })] : List Value).toArray w R := by
  have e : execR { P := Tryd.prog, loops := [], pur := pur1, tails := [], joins := [], boxes := [] } Tryd.f40.results.toList R (Tryd.f40.body.getD .skip) (initF [Value.pointer
    (some { block := b, off := o }),
  Value.pointer
    (some
      { block := b1,
        off :=
          o1 })] (Tryd.f40.ntmps - ([Value.pointer (some { block := b, off := o }),
  Value.pointer (some { block := b1, off := o1 })] : List Value).length)) w = VC_reasC b o b1 o1 w R := by kernel_rfl
  have hb : Tryd.f40.body = some (Tryd.f40.body.getD .skip) := by kernel_rfl
  exact calls_of_exec' (P := Tryd.prog) (fn := Tryd.f40) (c := Tryd.f40.body.getD .skip) (args := [Value.pointer
    (some { block := b, off := o }),
  Value.pointer (some { block := b1, off := o1 })]) (w := w) (R := R) pur1_ok Tryd.func40 hb e h

def VC_reasD (b : Nat) (o : Nat) (b1 : Nat) (o1 : Nat) (w : World) (R : Ending → World → Prop) : Prop :=
 ∃ (x : Bool),
 w.drew.cell? (Addr.mk b (o + 35) none) = some (Value.bool x) ∧
 ∃ (x_1 : Option Addr),
 gimp (!x) (w.drew.cell? (Addr.mk b1 o1 none) = some (Value.pointer x_1)) ∧
 nn (!x) x_1 fun (b_1 o_1 : Nat) =>
 ∃ (p : Option Addr),
 ∃ (n : Nat),
 ∃ (c : Nat),
 gimp (!x) (w.drew.cell? (Addr.mk b_1 (o_1 + 4) none) = some (Value.slice p n c)) ∧
 ∃ (x_2 : ByteArray),
 gimp (!x && decide ((↑n : Int) > 0)) (w.drew.cell? (Addr.mk b (o + 33) none) = some (Value.string x_2)) ∧
 ∃ (x_3 : Option Addr),
 gimp (!x && decide ((↑n : Int) > 0) && !x_2.toList == [])
 (w.drew.cell? (Addr.mk b1 o1 none) = some (Value.pointer x_3)) ∧
 nn (!x && decide ((↑n : Int) > 0) && !x_2.toList == []) x_3 fun (b_2 o_2 : Nat) =>
 ∃ (p : Option Addr),
 ∃ (n_1 : Nat),
 ∃ (c : Nat),
 gimp (!x && decide ((↑n : Int) > 0) && !x_2.toList == [])
 (w.drew.cell? (Addr.mk b_2 (o_2 + 4) none) = some (Value.slice p n_1 c)) ∧
 ∃ (x_4 : ByteArray),
 gimp (!x && decide ((↑n : Int) > 0) && !x_2.toList == [])
 (w.drew.cell? (Addr.mk b (o + 33) none) = some (Value.string x_4)) ∧
 bsp (!x && decide ((↑n : Int) > 0) && !x_2.toList == [])
 (CallsS Tryd.prog 42 #[Value.slice p n_1 c, Value.string x_4] w.drew
 fun (e : Ending) (w' : World) =>
 ∃ (x : Bool),
 e = Ending.returned (Value.bool x) ∧ R (Ending.returned (Value.bool (true && !x))) w')
 (R (Ending.returned (Value.bool false)) w.drew)
theorem vc_reasD (b : Nat) (o : Nat) (b1 : Nat) (o1 : Nat) (w : World) (R : Ending → World → Prop) (h : VC_reasD b o b1 o1 w R) : Calls Tryd.prog 41 ([Value.pointer
    (some { block := b, off := o }),
  Value.pointer (some { block := b1, off := o1 })] : List Value).toArray w R := by
  have e : execR { P := Tryd.prog, loops := [], pur := pur1, tails := [(1, 25)], joins := [], boxes := [] } Tryd.f41.results.toList R (Tryd.f41.body.getD .skip) (initF [Value.pointer
    (some { block := b, off := o }),
  Value.pointer
    (some
      { block := b1,
        off :=
          o1 })] (Tryd.f41.ntmps - ([Value.pointer (some { block := b, off := o }),
  Value.pointer (some { block := b1, off := o1 })] : List Value).length)) w = VC_reasD b o b1 o1 w R := by kernel_rfl
  have hb : Tryd.f41.body = some (Tryd.f41.body.getD .skip) := by kernel_rfl
  exact calls_of_exec' (P := Tryd.prog) (fn := Tryd.f41) (c := Tryd.f41.body.getD .skip) (args := [Value.pointer
    (some { block := b, off := o }),
  Value.pointer (some { block := b1, off := o1 })]) (w := w) (R := R) pur1_ok Tryd.func41 hb e h

def VC_reason (q : Option Addr) (a : Array Value) (w : World) (R : Ending → World → Prop) : Prop :=
 ∀ (n : Nat) (w1 : World),
 NewB w (Obj.cells #[Value.pointer q] 31) n w1 →
 ∀ (n_1 : Nat) (w1_1 : World),
 NewB w1 (Obj.cells a 39) n_1 w1_1 →
 ∃ (x : Option Addr),
 w1_1.cell? (Addr.mk n 0 none) = some (Value.pointer x) ∧
 bsp x.isNone (R (Ending.returned (Value.int IntKind.i64 1)) w1_1)
 (∀ (n_2 : Nat) (w1 : World),
 NewB w1_1
 (Obj.cells
 #[Value.nilFunc,
 Value.func (Fn.func 37) #[]
 #[Value.pointer (some (Addr.mk n_1 0 none)), Value.pointer (some (Addr.mk n 0 none))],
 Value.func (Fn.func 38) #[]
 #[Value.pointer (some (Addr.mk n_1 0 none)), Value.pointer (some (Addr.mk n 0 none))],
 Value.func (Fn.func 40) #[]
 #[Value.pointer (some (Addr.mk n_1 0 none)), Value.pointer (some (Addr.mk n 0 none))],
 Value.func (Fn.func 41) #[]
 #[Value.pointer (some (Addr.mk n_1 0 none)), Value.pointer (some (Addr.mk n 0 none))]]
 35)
 n_2 w1 →
 ∃ (I : List Value → World → Prop),
 ∃ (m : List Value → World → Nat),
 I [Value.int IntKind.i64 0] w1 ∧
 ∀ (x : Int) (w' : World),
 I [Value.int IntKind.i64 x] w' →
 bsp (decide (x < (↑5 : Int)))
 ((0 ≤ x ∧ x < (↑5 : Int)) ∧
 ∃ (x_1 : Value),
 w'.cell? (Addr.mk n_2 (0 + x.toNat) none) = some x_1 ∧
 bsp (x != 0)
 (∃ (f : Nat),
 ∃ (a : Array Value),
 ∃ (b : Array Value),
 x_1 = Value.func (Fn.func f) a b ∧
 okFn Tryd.prog f = true ∧
 CallsS Tryd.prog f (appA a [] b) w' fun (e : Ending) (w'_1 : World) =>
 ∃ (x_2 : Bool),
 e = Ending.returned (Value.bool x_2) ∧
 bsp (true && x_2) (R (Ending.returned (Value.int IntKind.i64 x)) w'_1)
 (I [Value.int IntKind.i64 (IntKind.i64.wrap (x + 1))] w'_1 ∧
 m [Value.int IntKind.i64 (IntKind.i64.wrap (x + 1))] w'_1 <
 m [Value.int IntKind.i64 x] w'))
 (I [Value.int IntKind.i64 (IntKind.i64.wrap (x + 1))] w' ∧
 m [Value.int IntKind.i64 (IntKind.i64.wrap (x + 1))] w' < m [Value.int IntKind.i64 x] w'))
 (R (Ending.returned (Value.int IntKind.i64 0)) w'))
theorem vc_reason (q : Option Addr) (a : Array Value) (w : World) (R : Ending → World → Prop) (h : VC_reason q a w R) : Calls Tryd.prog 17 ([Value.pointer
    q,
  Value.agg a] : List Value).toArray w R := by
  have e : execR { P := Tryd.prog, loops := [(5, [(17, Ck.int IntKind.i64)])], pur := pur1, tails := [], joins := [], boxes := [] } Tryd.f17.results.toList R (Tryd.f17.body.getD .skip) (initF [Value.pointer
    q,
  Value.agg
    a] (Tryd.f17.ntmps - ([Value.pointer q, Value.agg a] : List Value).length)) w = VC_reason q a w R := by kernel_rfl
  have hb : Tryd.f17.body = some (Tryd.f17.body.getD .skip) := by kernel_rfl
  exact calls_of_exec' (P := Tryd.prog) (fn := Tryd.f17) (c := Tryd.f17.body.getD .skip) (args := [Value.pointer q,
  Value.agg a]) (w := w) (R := R) pur1_ok Tryd.func17 hb e h

def VC_due (q : Option Addr) (a : Array Value) (w : World) (R : Ending → World → Prop) : Prop :=
 ∀ (n : Nat) (w1 : World),
 NewB w (Obj.cells a 39) n w1 →
 ∃ (f : Nat → Int),
 ∃ (p : Option Addr),
 ∃ (n_1 : Nat),
 ∃ (c : Nat),
 ∃ (x : ByteArray),
 ∃ (x_1 : Int),
 ∃ (x_2 : Bool),
 ∃ (x_3 : ByteArray),
 ∃ (x_4 : Int),
 AtL w1 n 0
 (arrI IntKind.u8 f 32 0 ++ [Value.slice p n_1 c, Value.string x,
 Value.int IntKind.i64 x_1, Value.bool x_2, Value.string x_3, Value.int IntKind.i64 x_4]) ∧
 CallsS Tryd.prog 17
 #[Value.pointer q,
 Value.agg
 (arrI IntKind.u8 f 32 0 ++ [Value.slice p n_1 c, Value.string x,
 Value.int IntKind.i64 x_1, Value.bool x_2, Value.string x_3, Value.int IntKind.i64 x_4]).toArray]
 w1 fun (e : Ending) (w' : World) =>
 ∃ (x : Int),
 e = Ending.returned (Value.int IntKind.i64 x) ∧
 bsp (x != 0) (R (Ending.returned (Value.tuple #[Value.int IntKind.i64 0, Value.bool false])) w')
 (∃ (x : Int),
 w'.drew.cell? (Addr.mk n (0 + 37) none) = some (Value.int IntKind.i64 x) ∧
 nn true q fun (b o : Nat) =>
 ∃ (x_5 : Int),
 w'.drew.cell? (Addr.mk b (o + 3) none) = some (Value.int IntKind.i64 x_5) ∧
 bsp (decide (x > IntKind.i64.wrap (9223372036854775807 - x_5)))
 (R (Ending.returned (Value.tuple #[Value.int IntKind.i64 9223372036854775807, Value.bool true]))
 w'.drew)
 (∃ (x : Int),
 w'.drew.drew.cell? (Addr.mk n (0 + 37) none) = some (Value.int IntKind.i64 x) ∧
 nn true q fun (b o : Nat) =>
 ∃ (x_6 : Int),
 w'.drew.drew.cell? (Addr.mk b (o + 3) none) = some (Value.int IntKind.i64 x_6) ∧
 R
 (Ending.returned
 (Value.tuple #[Value.int IntKind.i64 (IntKind.i64.wrap (x + x_6)), Value.bool true]))
 w'.drew.drew))
theorem vc_due (q : Option Addr) (a : Array Value) (w : World) (R : Ending → World → Prop) (h : VC_due q a w R) : Calls Tryd.prog 16 ([Value.pointer
    q,
  Value.agg a] : List Value).toArray w R := by
  have e : execR { P := Tryd.prog, loops := [], pur := pur1, tails := [], joins := [], boxes := [] } Tryd.f16.results.toList R (Tryd.f16.body.getD .skip) (initF [Value.pointer
    q,
  Value.agg
    a] (Tryd.f16.ntmps - ([Value.pointer q, Value.agg a] : List Value).length)) w = VC_due q a w R := by kernel_rfl
  have hb : Tryd.f16.body = some (Tryd.f16.body.getD .skip) := by kernel_rfl
  exact calls_of_exec' (P := Tryd.prog) (fn := Tryd.f16) (c := Tryd.f16.body.getD .skip) (args := [Value.pointer q,
  Value.agg a]) (w := w) (R := R) pur1_ok Tryd.func16 hb e h

end Go.Proofs.YtcpjajjocmpkjaaDoor
