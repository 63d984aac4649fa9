/- The formulas of functions by the symbolic evaluator, and that each gives the call's contract. Written by a program (gen.py). No condition. -/
import Derived.Test.YtcpjajjocmpkjaaDoorProg
import Derived.Test.YtcpjajjocmpkjaaDoorSound
import Derived.Test.YtcpjajjocmpkjaaDoorPur1
import Derived.KernelRfl
namespace Go.Proofs.YtcpjajjocmpkjaaDoor
set_option maxRecDepth 100000
set_option linter.unusedVariables false

def VC_rparseList (s : ByteArray) (w : World) (R : Ending → World → Prop) : Prop :=
 bsp (s.toList == [])
 (R (Ending.returned (Value.tuple #[Value.slice none 0 0, Value.int IntKind.i64 0, Value.int IntKind.i64 4])) w)
 (∃ (I : List Value → World → Prop),
 ∃ (m : List Value → World → Nat),
 I [Value.int IntKind.i64 0, Value.int IntKind.i64 0, Value.slice none 0 0] w ∧
 ∀ (x x_1 : Int) (p : Option Addr) (n c : Nat) (w' : World),
 I [Value.int IntKind.i64 x, Value.int IntKind.i64 x_1, Value.slice p n c] w' →
 bsp (decide (x ≤ (↑s.size : Int)))
 (gimp (decide (x < (↑s.size : Int))) (0 ≤ x ∧ x < (↑s.size : Int)) ∧
 bsp (decide (x < (↑s.size : Int)) && at8 s x.toNat != 44)
 (I [Value.int IntKind.i64 (IntKind.i64.wrap (x + 1)), Value.int IntKind.i64 x_1, Value.slice p n c] w' ∧
 m [Value.int IntKind.i64 (IntKind.i64.wrap (x + 1)), Value.int IntKind.i64 x_1, Value.slice p n c] w' <
 m [Value.int IntKind.i64 x, Value.int IntKind.i64 x_1, Value.slice p n c] w')
 (bsp ((↑n : Int) == 64)
 (R (Ending.returned (Value.tuple #[Value.slice none 0 0, Value.int IntKind.i64 x_1, Value.int IntKind.i64 9]))
 w')
 (∀ (n_1 : Nat) (w1 : World),
 NewB w' (Obj.cells #[Value.int IntKind.i64 0, Value.string (ByteArray.mk #[]), Value.slice none 0 0] 122) n_1
 w1 →
 WrL w1 n_1 0 3 ∧
 ∀ (w1_1 : World),
 PutB w1 n_1 0 [Value.int IntKind.i64 1, Value.string (ByteArray.mk #[]), Value.slice none 0 0] w1_1 →
 ∃ (J : List Value → World → Prop),
 (gimp (decide (x_1 < x)) (0 ≤ x_1 ∧ x_1 < (↑s.size : Int)) ∧
 bsp (decide (x_1 < x) && at8 s x_1.toNat == 33)
 (((∃ (u : Value), w1_1.cell? (Addr.mk n_1 0 none) = some u) ∧
 w1_1.frozen? (Addr.mk n_1 0 none) = false) ∧
 ∀ (w1 : World),
 PutB w1_1 n_1 0 [Value.int IntKind.i64 2] w1 →
 J [Value.int IntKind.i64 (IntKind.i64.wrap (x_1 + 1))] w1)
 (gimp (decide (x_1 < x)) (0 ≤ x_1 ∧ x_1 < (↑s.size : Int)) ∧
 bsp (decide (x_1 < x) && at8 s x_1.toNat == 64)
 (((∃ (u : Value), w1_1.cell? (Addr.mk n_1 0 none) = some u) ∧
 w1_1.frozen? (Addr.mk n_1 0 none) = false) ∧
 ∀ (w1 : World),
 PutB w1_1 n_1 0 [Value.int IntKind.i64 3] w1 →
 J [Value.int IntKind.i64 (IntKind.i64.wrap (x_1 + 1))] w1)
 (J [Value.int IntKind.i64 x_1] w1_1))) ∧
 ∀ (x_2 : Int) (w'_1 : World),
 J [Value.int IntKind.i64 x_2] w'_1 →
 (0 ≤ x_2 ∧ x_2 ≤ x ∧ x ≤ (↑s.size : Int)) ∧
 CallsS Tryd.prog 56 #[Value.string (s.extract x_2.toNat x.toNat)] w'_1
 fun (e : Ending) (w'_2 : World) =>
 ∃ (x_3 : ByteArray),
 ∃ (p_1 : Option Addr),
 ∃ (n_2 : Nat),
 ∃ (c_1 : Nat),
 ∃ (x_4 : Int),
 ∃ (x_5 : Int),
 e =
 Ending.returned
 (Value.tuple
 #[Value.agg #[Value.string x_3, Value.slice p_1 n_2 c_1], Value.int IntKind.i64 x_4,
 Value.int IntKind.i64 x_5]) ∧
 ∀ (n_3 : Nat) (w1 : World),
 NewB w'_2 (Obj.cells #[Value.string (ByteArray.mk #[]), Value.slice none 0 0] 120) n_3 w1 →
 WrL w1 n_3 0 2 ∧
 ∀ (w1_2 : World),
 PutB w1 n_3 0 [Value.string x_3, Value.slice p_1 n_2 c_1] w1_2 →
 bsp (x_5 != 0)
 (R
 (Ending.returned
 (Value.tuple
 #[Value.slice none 0 0, Value.int IntKind.i64 (IntKind.i64.wrap (x_2 + x_4)),
 Value.int IntKind.i64 x_5]))
 w1_2)
 (∃ (x_6 : ByteArray),
 ∃ (p_2 : Option Addr),
 ∃ (n_4 : Nat),
 ∃ (c_2 : Nat),
 AtL w1_2 n_3 0 [Value.string x_6, Value.slice p_2 n_4 c_2] ∧
 WrL w1_2 n_1 (0 + 1) 2 ∧
 ∀ (w1 : World),
 PutB w1_2 n_1 (0 + 1) [Value.string x_6, Value.slice p_2 n_4 c_2] w1 →
 ∃ (x_7 : Int),
 ∃ (x_8 : ByteArray),
 ∃ (p_3 : Option Addr),
 ∃ (n_5 : Nat),
 ∃ (c_3 : Nat),
 AtL w1 n_1 0
 [Value.int IntKind.i64 x_7, Value.string x_8,
 Value.slice p_3 n_5 c_3] ∧
 ∀ (n_6 : Nat) (w1_3 : World),
 NewB w1
 (Obj.cells
 #[Value.int IntKind.i64 x_7, Value.string x_8,
 Value.slice p_3 n_5 c_3]
 122)
 n_6 w1_3 →
 ∃ (base : Nat),
 ∃ (xs : List Value),
 ∃ (news : List Value),
 w1_3.ownsRow base 122 3 (Value.slice p n c) n xs ∧
 news.length = 3 ∧
 SrcP w1_3 (some (Addr.mk n_6 0 none)) news ∧
 n + 1 ≤ 9223372036854775807 ∧
 (n + 1) * 48 ≤ 140737488355328 ∧
 base ≤ w1_3.heap.size ∧
 ∀ (p' : Option Addr) (c' : Nat) (w'_3 : World),
 w'_3.ownsRow base 122 3 (Value.slice p' (n + 1) c') (n + 1)
 (xs ++ news) →
 w1_3.grownBy w'_3 (Value.slice p n c).ownBlock →
 I
 [Value.int IntKind.i64 (IntKind.i64.wrap (x + 1)),
 Value.int IntKind.i64 (IntKind.i64.wrap (x + 1)),
 Value.slice p' (n + 1) c']
 w'_3 ∧
 m
 [Value.int IntKind.i64 (IntKind.i64.wrap (x + 1)),
 Value.int IntKind.i64 (IntKind.i64.wrap (x + 1)),
 Value.slice p' (n + 1) c']
 w'_3 <
 m
 [Value.int IntKind.i64 x, Value.int IntKind.i64 x_1,
 Value.slice p n c]
 w'))))
 (R (Ending.returned (Value.tuple #[Value.slice p n c, Value.int IntKind.i64 0, Value.int IntKind.i64 0])) w'))
theorem vc_rparseList (s : ByteArray) (w : World) (R : Ending → World → Prop) (h : VC_rparseList s w R) : Calls Tryd.prog 33 ([Value.string
    s] : List Value).toArray w R := by
  have e : execR { P := Tryd.prog, loops := [(6, [(7, Ck.int IntKind.i64), (6, Ck.int IntKind.i64), (5, Ck.slice)])], pur := pur1, tails := [], joins := [(19, [(9, Ck.int IntKind.i64)])], boxes := [] } Tryd.f33.results.toList R (Tryd.f33.body.getD .skip) (initF [Value.string
    s] (Tryd.f33.ntmps - ([Value.string s] : List Value).length)) w = VC_rparseList s w R := by kernel_rfl
  have hb : Tryd.f33.body = some (Tryd.f33.body.getD .skip) := by kernel_rfl
  exact calls_of_exec' (P := Tryd.prog) (fn := Tryd.f33) (c := Tryd.f33.body.getD .skip) (args := [Value.string
    s]) (w := w) (R := R) pur1_ok Tryd.func33 hb e h

end Go.Proofs.YtcpjajjocmpkjaaDoor
