/- The formulas of functions by the symbolic evaluator, and that each gives the call's contract. Written by a program (gen.py). No condition. -/
import Derived.Test.YtcpjajjocmpkjaaDoorProg
import Derived.Test.YtcpjajjocmpkjaaDoorSound
import Derived.Test.YtcpjajjocmpkjaaDoorPur1
import Derived.KernelRfl
namespace Go.Proofs.YtcpjajjocmpkjaaDoor
set_option maxRecDepth 100000
set_option linter.unusedVariables false

def VC_fcompile (nb : ByteArray) (ps : ByteArray) (mb : Int) (dl : Int) (p : Option Addr) (n : Nat) (c : Nat) (w : World) (R : Ending → World → Prop) : Prop :=
 ∀ (n_1 : Nat) (w1 : World),
 NewB w
 (Obj.cells #[Value.string nb, Value.string ps, Value.int IntKind.i64 mb, Value.int IntKind.i64 dl, Value.slice p n c]
 28)
 n_1 w1 →
 ∃ (x : ByteArray),
 ∃ (x_1 : ByteArray),
 ∃ (x_2 : Int),
 ∃ (x_3 : Int),
 ∃ (p : Option Addr),
 ∃ (n : Nat),
 ∃ (c : Nat),
 AtL w1 n_1 0
 [Value.string x, Value.string x_1, Value.int IntKind.i64 x_2, Value.int IntKind.i64 x_3, Value.slice p n c] ∧
 CallsS Tryd.prog 24
 #[Value.agg
 #[Value.string x, Value.string x_1, Value.int IntKind.i64 x_2, Value.int IntKind.i64 x_3,
 Value.slice p n c]]
 w1 fun (e : Ending) (w' : World) =>
 ∃ (x : Int),
 e = Ending.returned (Value.int IntKind.i64 x) ∧
 bsp (x != 0) (R (Ending.returned (Value.tuple #[Value.pointer none, Value.int IntKind.i64 x])) w')
 (∃ (x : ByteArray),
 w'.cell? (Addr.mk n_1 (0 + 1) none) = some (Value.string x) ∧
 CallsS Tryd.prog 30 #[Value.string x] w' fun (e : Ending) (w' : World) =>
 ∃ (x : Option Addr),
 ∃ (x_4 : Int),
 ∃ (x_5 : Int),
 e =
 Ending.returned
 (Value.tuple #[Value.pointer x, Value.int IntKind.i64 x_4, Value.int IntKind.i64 x_5]) ∧
 bsp (x_5 != 0)
 (R (Ending.returned (Value.tuple #[Value.pointer none, Value.int IntKind.i64 x_5])) w')
 (∃ (p : Option Addr),
 ∃ (n : Nat),
 ∃ (c : Nat),
 w'.cell? (Addr.mk n_1 (0 + 4) none) = some (Value.slice p n c) ∧
 CallsS Tryd.prog 31 #[Value.slice p n c] w' fun (e : Ending) (w' : World) =>
 ∃ (p : Option Addr),
 ∃ (n : Nat),
 ∃ (c : Nat),
 e = Ending.returned (Value.slice p n c) ∧
 ((∃ (u : Value), w'.cell? (Addr.mk n_1 (0 + 4) none) = some u) ∧
 w'.frozen? (Addr.mk n_1 (0 + 4) none) = false) ∧
 ∀ (w1 : World),
 PutB w' n_1 (0 + 4) [Value.slice p n c] w1 →
 ∃ (x_6 : ByteArray),
 ∃ (x_7 : ByteArray),
 ∃ (x_8 : Int),
 ∃ (x_9 : Int),
 ∃ (p : Option Addr),
 ∃ (n : Nat),
 ∃ (c : Nat),
 AtL w1 n_1 0
 [Value.string x_6, Value.string x_7, Value.int IntKind.i64 x_8,
 Value.int IntKind.i64 x_9, Value.slice p n c] ∧
 ∀ (n_2 : Nat) (w1_1 : World),
 NewB w1
 (Obj.cells
 #[Value.string x_6, Value.string x_7, Value.int IntKind.i64 x_8,
 Value.int IntKind.i64 x_9, Value.slice p n c, Value.pointer x]
 81)
 n_2 w1_1 →
 R
 (Ending.returned
 (Value.tuple
 #[Value.pointer (some (Addr.mk n_2 0 none)), Value.int IntKind.i64 0]))
 w1_1))
theorem vc_fcompile (nb : ByteArray) (ps : ByteArray) (mb : Int) (dl : Int) (p : Option Addr) (n : Nat) (c : Nat) (w : World) (R : Ending → World → Prop) (h : VC_fcompile nb ps mb dl p n c w R) : Calls Tryd.prog 11 ([Value.agg
    #[Value.string nb, Value.string ps, Value.int IntKind.i64 mb, Value.int IntKind.i64 dl,
      Value.slice p n c]] : List Value).toArray w R := by
  have e : execR { P := Tryd.prog, loops := [], pur := pur1, tails := [], joins := [], boxes := [] } Tryd.f11.results.toList R (Tryd.f11.body.getD .skip) (initF [Value.agg
    #[Value.string nb, Value.string ps, Value.int IntKind.i64 mb, Value.int IntKind.i64 dl,
      Value.slice p n
        c]] (Tryd.f11.ntmps - ([Value.agg
    #[Value.string nb, Value.string ps, Value.int IntKind.i64 mb, Value.int IntKind.i64 dl,
      Value.slice p n c]] : List Value).length)) w = VC_fcompile nb ps mb dl p n c w R := by kernel_rfl
  have hb : Tryd.f11.body = some (Tryd.f11.body.getD .skip) := by kernel_rfl
  exact calls_of_exec' (P := Tryd.prog) (fn := Tryd.f11) (c := Tryd.f11.body.getD .skip) (args := [Value.agg
    #[Value.string nb, Value.string ps, Value.int IntKind.i64 mb, Value.int IntKind.i64 dl,
      Value.slice p n c]]) (w := w) (R := R) pur1_ok Tryd.func11 hb e h

def VC_frule (b : Nat) (o : Nat) (w : World) (R : Ending → World → Prop) : Prop :=
 ∀ (n : Nat) (w1 : World),
 NewB w
 (Obj.cells
 #[Value.string (ByteArray.mk #[]), Value.string (ByteArray.mk #[]), Value.int IntKind.i64 0,
 Value.int IntKind.i64 0, Value.slice none 0 0]
 28)
 n w1 →
 ∃ (x : ByteArray),
 ∃ (x_1 : ByteArray),
 ∃ (x_2 : Int),
 ∃ (x_3 : Int),
 ∃ (p : Option Addr),
 ∃ (n_1 : Nat),
 ∃ (c : Nat),
 AtL w1 b o
 [Value.string x, Value.string x_1, Value.int IntKind.i64 x_2, Value.int IntKind.i64 x_3,
 Value.slice p n_1 c] ∧
 ∀ (n_2 : Nat) (w1_1 : World),
 NewB w1
 (Obj.cells
 #[Value.string (ByteArray.mk #[]), Value.string (ByteArray.mk #[]), Value.int IntKind.i64 0,
 Value.int IntKind.i64 0, Value.slice none 0 0]
 28)
 n_2 w1_1 →
 WrL w1_1 n_2 0 5 ∧
 ∀ (w1 : World),
 PutB w1_1 n_2 0
 [Value.string x, Value.string x_1, Value.int IntKind.i64 x_2, Value.int IntKind.i64 x_3,
 Value.slice p n_1 c]
 w1 →
 ∃ (p : Option Addr),
 ∃ (n_3 : Nat),
 ∃ (c : Nat),
 w1.cell? (Addr.mk n_2 (0 + 4) none) = some (Value.slice p n_3 c) ∧
 CallsS Tryd.prog 31 #[Value.slice p n_3 c] w1 fun (e : Ending) (w' : World) =>
 ∃ (p : Option Addr),
 ∃ (n_4 : Nat),
 ∃ (c : Nat),
 e = Ending.returned (Value.slice p n_4 c) ∧
 ((∃ (u : Value), w'.cell? (Addr.mk n_2 (0 + 4) none) = some u) ∧
 w'.frozen? (Addr.mk n_2 (0 + 4) none) = false) ∧
 ∀ (w1 : World),
 PutB w' n_2 (0 + 4) [Value.slice p n_4 c] w1 →
 ∃ (x : ByteArray),
 ∃ (x_4 : ByteArray),
 ∃ (x_5 : Int),
 ∃ (x_6 : Int),
 ∃ (p : Option Addr),
 ∃ (n_5 : Nat),
 ∃ (c : Nat),
 AtL w1 n_2 0
 [Value.string x, Value.string x_4, Value.int IntKind.i64 x_5,
 Value.int IntKind.i64 x_6, Value.slice p n_5 c] ∧
 WrL w1 n 0 5 ∧
 ∀ (w1_2 : World),
 PutB w1 n 0
 [Value.string x, Value.string x_4, Value.int IntKind.i64 x_5,
 Value.int IntKind.i64 x_6, Value.slice p n_5 c]
 w1_2 →
 ∃ (x : ByteArray),
 ∃ (x_7 : ByteArray),
 ∃ (x_8 : Int),
 ∃ (x_9 : Int),
 ∃ (p : Option Addr),
 ∃ (n_6 : Nat),
 ∃ (c : Nat),
 AtL w1_2 n 0
 [Value.string x, Value.string x_7, Value.int IntKind.i64 x_8,
 Value.int IntKind.i64 x_9, Value.slice p n_6 c] ∧
 R
 (Ending.returned
 (Value.agg
 #[Value.string x, Value.string x_7, Value.int IntKind.i64 x_8,
 Value.int IntKind.i64 x_9, Value.slice p n_6 c]))
 w1_2
theorem vc_frule (b : Nat) (o : Nat) (w : World) (R : Ending → World → Prop) (h : VC_frule b o w R) : Calls Tryd.prog 25 ([Value.pointer
    (some { block := b, off := o })] : List Value).toArray w R := by
  have e : execR { P := Tryd.prog, loops := [], pur := pur1, tails := [], joins := [], boxes := [] } Tryd.f25.results.toList R (Tryd.f25.body.getD .skip) (initF [Value.pointer
    (some
      { block := b,
        off :=
          o })] (Tryd.f25.ntmps - ([Value.pointer
    (some { block := b, off := o })] : List Value).length)) w = VC_frule b o w R := by kernel_rfl
  have hb : Tryd.f25.body = some (Tryd.f25.body.getD .skip) := by kernel_rfl
  exact calls_of_exec' (P := Tryd.prog) (fn := Tryd.f25) (c := Tryd.f25.body.getD .skip) (args := [Value.pointer
    (some { block := b, off := o })]) (w := w) (R := R) pur1_ok Tryd.func25 hb e h

def VC_fruleNil (w : World) (R : Ending → World → Prop) : Prop :=
 ∀ (n : Nat) (w1 : World),
 NewB w
 (Obj.cells
 #[Value.string (ByteArray.mk #[]), Value.string (ByteArray.mk #[]), Value.int IntKind.i64 0,
 Value.int IntKind.i64 0, Value.slice none 0 0]
 28)
 n w1 →
 WrL w1 n 0 5 ∧
 ∀ (w1_1 : World),
 PutB w1 n 0
 [Value.string (ByteArray.mk #[]), Value.string (ByteArray.mk #[]), Value.int IntKind.i64 0,
 Value.int IntKind.i64 0, Value.slice none 0 0]
 w1_1 →
 ∃ (x : ByteArray),
 ∃ (x_1 : ByteArray),
 ∃ (x_2 : Int),
 ∃ (x_3 : Int),
 ∃ (p : Option Addr),
 ∃ (n_1 : Nat),
 ∃ (c : Nat),
 AtL w1_1 n 0
 [Value.string x, Value.string x_1, Value.int IntKind.i64 x_2, Value.int IntKind.i64 x_3,
 Value.slice p n_1 c] ∧
 R
 (Ending.returned
 (Value.agg
 #[Value.string x, Value.string x_1, Value.int IntKind.i64 x_2, Value.int IntKind.i64 x_3,
 Value.slice p n_1 c]))
 w1_1
theorem vc_fruleNil (w : World) (R : Ending → World → Prop) (h : VC_fruleNil w R) : Calls Tryd.prog 25 ([Value.pointer
    none] : List Value).toArray w R := by
  have e : execR { P := Tryd.prog, loops := [], pur := pur1, tails := [], joins := [], boxes := [] } Tryd.f25.results.toList R (Tryd.f25.body.getD .skip) (initF [Value.pointer
    none] (Tryd.f25.ntmps - ([Value.pointer none] : List Value).length)) w = VC_fruleNil w R := by kernel_rfl
  have hb : Tryd.f25.body = some (Tryd.f25.body.getD .skip) := by kernel_rfl
  exact calls_of_exec' (P := Tryd.prog) (fn := Tryd.f25) (c := Tryd.f25.body.getD .skip) (args := [Value.pointer
    none]) (w := w) (R := R) pur1_ok Tryd.func25 hb e h

end Go.Proofs.YtcpjajjocmpkjaaDoor
