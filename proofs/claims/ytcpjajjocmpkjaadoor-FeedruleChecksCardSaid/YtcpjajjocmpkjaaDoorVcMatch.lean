/- The formulas of functions by the symbolic evaluator, and that each gives the call's contract. Written by a program (gen.py). No condition. -/
import Derived.Test.YtcpjajjocmpkjaaDoorProg
import Derived.Test.YtcpjajjocmpkjaaDoorSound
import Derived.Test.YtcpjajjocmpkjaaDoorPur1
import Derived.KernelRfl
namespace Go.Proofs.YtcpjajjocmpkjaaDoor
set_option maxRecDepth 100000
set_option linter.unusedVariables false

def VC_match (b : Nat) (o : Nat) (s : ByteArray) (w : World) (R : Ending → World → Prop) : Prop :=
 ∃ (p : Option Addr),
 ∃ (n : Nat),
 ∃ (c : Nat),
 w.cell? (Addr.mk b (o + 1) none) = some (Value.slice p n c) ∧
 (0 ≤ IntKind.i64.wrap ((↑n : Int) + 1) ∧
 IntKind.i64.wrap ((↑n : Int) + 1) ≤ IntKind.i64.wrap ((↑n : Int) + 1) ∧
 (↑1 : Int) * IntKind.i64.wrap ((↑n : Int) + 1) ≤ 281474976710656 ∧
 IntKind.i64.wrap ((↑n : Int) + 1) ≤ 9223372036854775807) ∧
 ∀ (n_1 : Nat) (w1 : World),
 NewB w (Obj.cells (madeCells #[Value.bool false] ((IntKind.i64.wrap ((↑n : Int) + 1)).toNat * 1)) 4) n_1 w1 →
 ((0 : Int) ≤ 0 ∧ 0 < (↑(IntKind.i64.wrap ((↑n : Int) + 1)).toNat : Int)) ∧
 ((∃ (u : Value), w1.cell? (Addr.mk n_1 0 none) = some u) ∧ w1.frozen? (Addr.mk n_1 0 none) = false) ∧
 ∀ (w1_1 : World),
 PutB w1 n_1 0 [Value.bool true] w1_1 →
 CallsS Tryd.prog 93
 #[Value.pointer (some (Addr.mk b o none)),
 Value.slice (some (Addr.mk n_1 0 none)) (IntKind.i64.wrap ((↑n : Int) + 1)).toNat
 (IntKind.i64.wrap ((↑n : Int) + 1)).toNat]
 w1_1 fun (e : Ending) (w' : World) =>
 e = Ending.returned (Value.tuple #[]) ∧
 ∀ (c n_2 : Nat) (w1 : World),
 s.size ≤ c →
 NewB w'.drew (Obj.cells (bytesRow s c) 5 ((bytesRow s c).size, (bytesRow s c).size + 1)) n_2 w1 →
 ∃ (I : List Value → World → Prop),
 ∃ (m : List Value → World → Nat),
 I
 [Value.slice (some (Addr.mk n_1 0 none)) (IntKind.i64.wrap ((↑n : Int) + 1)).toNat
 (IntKind.i64.wrap ((↑n : Int) + 1)).toNat,
 Value.int IntKind.i64 0]
 w1 ∧
 ∀ (p : Option Addr) (n c : Nat) (x : Int) (w' : World),
 I [Value.slice p n c, Value.int IntKind.i64 x] w' →
 bsp (decide (x < (↑s.size : Int)))
 ((0 ≤ x ∧ x < (↑s.size : Int)) ∧
 ∃ (x_1 : Int),
 w'.cell? (Addr.mk n_2 (0 + x.toNat) none) = some (Value.int IntKind.u8 x_1) ∧
 (0 ≤ (↑n : Int) ∧
 (↑n : Int) ≤ (↑n : Int) ∧
 (↑1 : Int) * (↑n : Int) ≤ 281474976710656 ∧ (↑n : Int) ≤ 9223372036854775807) ∧
 ∀ (n_3 : Nat) (w1 : World),
 NewB w' (Obj.cells (madeCells #[Value.bool false] ((↑n : Int).toNat * 1)) 4) n_3 w1 →
 ∃ (p_1 : Option Addr),
 ∃ (n_4 : Nat),
 ∃ (c_1 : Nat),
 w1.cell? (Addr.mk b (o + 1) none) = some (Value.slice p_1 n_4 c_1) ∧
 ∃ (I_1 : List Value → World → Prop),
 ∃ (m_1 : List Value → World → Nat),
 I_1 [Value.int IntKind.i64 0] w1 ∧
 ∀ (x_2 : Int) (w'_1 : World),
 I_1 [Value.int IntKind.i64 x_2] w'_1 →
 bsp (decide (x_2 < (↑n_4 : Int)))
 (∃ (J : List Value → World → Prop),
 (nn true p_1 fun (b o : Nat) =>
 (0 ≤ x_2 ∧ x_2 < (↑n_4 : Int)) ∧
 ∃ (x : Value),
 w'_1.cell? (Addr.mk b (o + x_2.toNat) none) = some x ∧
 nn true p fun (b o : Nat) =>
 (0 ≤ x_2 ∧ x_2 < (↑n : Int)) ∧
 ∃ (x_3 : Bool),
 w'_1.cell? (Addr.mk b (o + x_2.toNat) none) = some (Value.bool x_3) ∧
 bsp (!!x_3)
 (CallsS Tryd.prog 94 #[x, Value.int IntKind.u8 x_1] w'_1
 fun (e : Ending) (w' : World) =>
 ∃ (x_4 : Bool),
 e = Ending.returned (Value.bool x_4) ∧
 bsp (false || !x_4) (J [] w')
 (CallsS Tryd.prog 95 #[x] w' fun (e : Ending) (w' : World) =>
 ∃ (x : Bool),
 e = Ending.returned (Value.bool x) ∧
 bsp x
 ((0 ≤ x_2 ∧ x_2 < (↑(↑n : Int).toNat : Int)) ∧
 ((∃ (u : Value),
 w'.cell? (Addr.mk n_3 (0 + x_2.toNat) none) = some u) ∧
 w'.frozen? (Addr.mk n_3 (0 + x_2.toNat) none) = false) ∧
 ∀ (w1 : World),
 PutB w' n_3 (0 + x_2.toNat) [Value.bool true] w1 → J [] w1)
 ((0 ≤ IntKind.i64.wrap (x_2 + 1) ∧
 IntKind.i64.wrap (x_2 + 1) < (↑(↑n : Int).toNat : Int)) ∧
 ((∃ (u : Value),
 w'.cell?
 (Addr.mk n_3 (0 + (IntKind.i64.wrap (x_2 + 1)).toNat)
 none) =
 some u) ∧
 w'.frozen?
 (Addr.mk n_3 (0 + (IntKind.i64.wrap (x_2 + 1)).toNat)
 none) =
 false) ∧
 ∀ (w1 : World),
 PutB w' n_3 (0 + (IntKind.i64.wrap (x_2 + 1)).toNat)
 [Value.bool true] w1 →
 J [] w1)))
 (J [] w'_1)) ∧
 ∀ (w' : World),
 J [] w' →
 I_1 [Value.int IntKind.i64 (IntKind.i64.wrap (x_2 + 1))] w' ∧
 m_1 [Value.int IntKind.i64 (IntKind.i64.wrap (x_2 + 1))] w' <
 m_1 [Value.int IntKind.i64 x_2] w'_1)
 (CallsS Tryd.prog 93
 #[Value.pointer (some (Addr.mk b o none)),
 Value.slice (some (Addr.mk n_3 0 none)) (↑n : Int).toNat (↑n : Int).toNat]
 w'_1 fun (e : Ending) (w'_2 : World) =>
 e = Ending.returned (Value.tuple #[]) ∧
 I
 [Value.slice (some (Addr.mk n_3 0 none)) (↑n : Int).toNat (↑n : Int).toNat,
 Value.int IntKind.i64 (IntKind.i64.wrap (x + 1))]
 w'_2 ∧
 m
 [Value.slice (some (Addr.mk n_3 0 none)) (↑n : Int).toNat (↑n : Int).toNat,
 Value.int IntKind.i64 (IntKind.i64.wrap (x + 1))]
 w'_2 <
 m [Value.slice p n c, Value.int IntKind.i64 x] w'))
 (∃ (p_1 : Option Addr),
 ∃ (n_3 : Nat),
 ∃ (c : Nat),
 w'.cell? (Addr.mk b (o + 1) none) = some (Value.slice p_1 n_3 c) ∧
 nn true p fun (b o : Nat) =>
 (0 ≤ (↑n_3 : Int) ∧ (↑n_3 : Int) < (↑n : Int)) ∧
 ∃ (x : Bool),
 w'.cell? (Addr.mk b (o + (↑n_3 : Int).toNat) none) = some (Value.bool x) ∧
 R (Ending.returned (Value.bool x)) w')
theorem vc_match (b : Nat) (o : Nat) (s : ByteArray) (w : World) (R : Ending → World → Prop) (h : VC_match b o s w R) : Calls Tryd.prog 75 ([Value.pointer
    (some { block := b, off := o }),
  Value.string s] : List Value).toArray w R := by
  have e : execR { P := Tryd.prog, loops := [(7, [(5, Ck.slice), (28, Ck.int IntKind.i64)]), (11, [(40, Ck.int IntKind.i64)])], pur := pur1, tails := [], joins := [(17, [])], boxes := [] } Tryd.f75.results.toList R (Tryd.f75.body.getD .skip) (initF [Value.pointer
    (some { block := b, off := o }),
  Value.string
    s] (Tryd.f75.ntmps - ([Value.pointer (some { block := b, off := o }),
  Value.string s] : List Value).length)) w = VC_match b o s w R := by kernel_rfl
  have hb : Tryd.f75.body = some (Tryd.f75.body.getD .skip) := by kernel_rfl
  exact calls_of_exec' (P := Tryd.prog) (fn := Tryd.f75) (c := Tryd.f75.body.getD .skip) (args := [Value.pointer
    (some { block := b, off := o }),
  Value.string s]) (w := w) (R := R) pur1_ok Tryd.func75 hb e h

end Go.Proofs.YtcpjajjocmpkjaaDoor
