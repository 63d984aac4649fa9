/- The formulas of functions by the symbolic evaluator, and that each gives the call's contract. Written by a program (gen.py). No condition. -/
import Derived.Test.YtgmmoghagpmpfaaGreatDoorProg
import Derived.Test.YtgmmoghagpmpfaaGreatDoorZ02
import Derived.Test.YtgmmoghagpmpfaaGreatDoorZ05
import Derived.Test.YtgmmoghagpmpfaaGreatDoorZ04
import Derived.KernelRfl
import Derived.Test.YtgmmoghagpmpfaaGreatDoorZ06
import Derived.Lib.ItoaLen
import Derived.WalkKit
import Derived.Laws.IdiomStrings
import Derived.Deep.RegionWith
import Derived.Shelf.RegionOpenPlain
import Derived.Handy
import Derived.Test.YtgmmoghagpmpfaaGreatDoorZ03
import Derived.LaidSub
import Derived.Lib.LaidTab
import Derived.Maps.RangeRun
namespace Go.Proofs.YtgmmoghagpmpfaaGreatDoor
set_option maxRecDepth 100000
set_option linter.unusedVariables false

def VC_skip (s : ByteArray) (k : Int) (f : FuncId) (fa : Array Value) (fb : Array Value) (w : World) (R : Ending → World → Prop) : Prop :=
 ∃ (I : List Value → World → Prop),
 ∃ (m : List Value → World → Nat),
 I [Value.int IntKind.i64 k] w ∧
 ∀ (x : Int) (w' : World),
 I [Value.int IntKind.i64 x] w' →
 gimp (decide (x < (↑s.size : Int))) (0 ≤ x ∧ x < (↑s.size : Int)) ∧
 bsp (decide (x < (↑s.size : Int)))
 (∃ (f_1 : Nat),
 ∃ (a : Array Value),
 ∃ (b : Array Value),
 Value.func (Fn.func f) fa fb = Value.func (Fn.func f_1) a b ∧
 okFn Tryz.prog f_1 = true ∧
 CallsS Tryz.prog f_1 (appA a [Value.int IntKind.u8 (at8 s x.toNat)] b) w' fun (e : Ending) (w'_1 : World) =>
 ∃ (x_1 : Bool),
 e = Ending.returned (Value.bool x_1) ∧
 KeptL [] w' w'_1 ∧
 bsp (true && x_1)
 (I [Value.int IntKind.i64 (IntKind.i64.wrap (x + 1))] w'_1 ∧
 m [Value.int IntKind.i64 (IntKind.i64.wrap (x + 1))] w'_1 < m [Value.int IntKind.i64 x] w')
 (R (Ending.returned (Value.int IntKind.i64 x)) w'_1))
 (KeptL [] w' w' ∧ R (Ending.returned (Value.int IntKind.i64 x)) w')
theorem vc_skip (s : ByteArray) (k : Int) (f : FuncId) (fa : Array Value) (fb : Array Value) (w : World) (R : Ending → World → Prop) (h : VC_skip s k f fa fb w R) : Calls Tryz.prog 92 ([Value.string
    s,
  Value.int IntKind.i64 k, Value.func (Fn.func f) fa fb] : List Value).toArray w R := by
  have e : execR2 { P := Tryz.prog, loops := [(1, [(1, Ck.int IntKind.i64)])], pur := pur1, tails := [], joins := [], boxes := [] } Tryz.f92.results.toList R (Tryz.f92.body.getD .skip) (initF [Value.string
    s,
  Value.int IntKind.i64 k,
  Value.func (Fn.func f) fa
    fb] (Tryz.f92.ntmps - ([Value.string s, Value.int IntKind.i64 k,
  Value.func (Fn.func f) fa fb] : List Value).length)) w = VC_skip s k f fa fb w R := by kernel_rfl
  have hb : Tryz.f92.body = some (Tryz.f92.body.getD .skip) := by kernel_rfl
  exact calls_of_exec2' (P := Tryz.prog) (fn := Tryz.f92) (c := Tryz.f92.body.getD .skip) (args := [Value.string s,
  Value.int IntKind.i64 k, Value.func (Fn.func f) fa fb]) (w := w) (R := R) pur1_ok Tryz.func92 hb e h

def VC_anum (s : ByteArray) (m : Int) (w : World) (R : Ending → World → Prop) : Prop :=
 bsp (!s.toList == [])
 (CallsS Tryz.prog 92 #[Value.string s, Value.int IntKind.i64 0, Value.func (Fn.func 93) #[] #[]] w
 fun (e : Ending) (w' : World) =>
 ∃ (x : Int),
 e = Ending.returned (Value.int IntKind.i64 x) ∧
 KeptL [] w w' ∧
 gimp (!(false || decide (x < (↑s.size : Int))) && decide ((↑s.size : Int) > 1)) ((0 : Int) ≤ 0 ∧ 0 < (↑s.size : Int)) ∧
 bsp (false || decide (x < (↑s.size : Int)) || decide ((↑s.size : Int) > 1) && at8 s 0 == 48)
 (R (Ending.returned (Value.tuple #[Value.int IntKind.i64 0, Value.int IntKind.i64 3])) w')
 (bsp (decide (m < 0)) (R (Ending.returned (Value.tuple #[Value.int IntKind.i64 0, Value.int IntKind.i64 2])) w')
 (∃ (I : List Value → World → Prop),
 ∃ (m_1 : List Value → World → Nat),
 I [Value.int IntKind.i64 0, Value.int IntKind.i64 0] w' ∧
 ∀ (x x_1 : Int) (w' : World),
 I [Value.int IntKind.i64 x, Value.int IntKind.i64 x_1] w' →
 bsp (decide (x < (↑s.size : Int)))
 ((0 ≤ x ∧ x < (↑s.size : Int)) ∧
 bsp
 (decide (x_1 > IntKind.i64.wrap (m.tdiv 10)) ||
 x_1 == IntKind.i64.wrap (m.tdiv 10) &&
 decide (IntKind.i64.wrap (IntKind.u8.wrap (at8 s x.toNat - 48)) > m.tmod 10))
 (R (Ending.returned (Value.tuple #[Value.int IntKind.i64 0, Value.int IntKind.i64 2])) w')
 (I
 [Value.int IntKind.i64 (IntKind.i64.wrap (x + 1)),
 Value.int IntKind.i64
 (IntKind.i64.wrap
 (IntKind.i64.wrap (10 * x_1) + IntKind.i64.wrap (IntKind.u8.wrap (at8 s x.toNat - 48))))]
 w' ∧
 m_1
 [Value.int IntKind.i64 (IntKind.i64.wrap (x + 1)),
 Value.int IntKind.i64
 (IntKind.i64.wrap
 (IntKind.i64.wrap (10 * x_1) + IntKind.i64.wrap (IntKind.u8.wrap (at8 s x.toNat - 48))))]
 w' <
 m_1 [Value.int IntKind.i64 x, Value.int IntKind.i64 x_1] w'))
 (R (Ending.returned (Value.tuple #[Value.int IntKind.i64 x_1, Value.int IntKind.i64 0])) w'))))
 (KeptL [] w w ∧ True ∧ R (Ending.returned (Value.tuple #[Value.int IntKind.i64 0, Value.int IntKind.i64 3])) w)
theorem vc_anum (s : ByteArray) (m : Int) (w : World) (R : Ending → World → Prop) (h : VC_anum s m w R) : Calls Tryz.prog 69 ([Value.string
    s,
  Value.int IntKind.i64 m] : List Value).toArray w R := by
  have e : execR2 { P := Tryz.prog, loops := [(7, [(32, Ck.int IntKind.i64), (6, Ck.int IntKind.i64)])], pur := pur1, tails := [], joins := [], boxes := [] } Tryz.f69.results.toList R (Tryz.f69.body.getD .skip) (initF [Value.string
    s,
  Value.int IntKind.i64
    m] (Tryz.f69.ntmps - ([Value.string s,
  Value.int IntKind.i64 m] : List Value).length)) w = VC_anum s m w R := by kernel_rfl
  have hb : Tryz.f69.body = some (Tryz.f69.body.getD .skip) := by kernel_rfl
  exact calls_of_exec2' (P := Tryz.prog) (fn := Tryz.f69) (c := Tryz.f69.body.getD .skip) (args := [Value.string s,
  Value.int IntKind.i64 m]) (w := w) (R := R) pur1_ok Tryz.func69 hb e h

def VC_digits (x : Int) (w : World) (R : Ending → World → Prop) : Prop :=
 CallsS Tryz.prog 76 #[Value.int IntKind.i64 x] w fun (e : Ending) (w' : World) =>
 ∃ (x : ByteArray), e = Ending.returned (Value.string x) ∧ KeptL [] w w' ∧ R (Ending.returned (Value.string x)) w'
theorem vc_digits (x : Int) (w : World) (R : Ending → World → Prop) (h : VC_digits x w R) : Calls Tryz.prog 46 ([Value.int
    IntKind.i64 x] : List Value).toArray w R := by
  have e : execR2 { P := Tryz.prog, loops := [], pur := pur1, tails := [], joins := [], boxes := [] } Tryz.f46.results.toList R (Tryz.f46.body.getD .skip) (initF [Value.int
    IntKind.i64
    x] (Tryz.f46.ntmps - ([Value.int IntKind.i64 x] : List Value).length)) w = VC_digits x w R := by kernel_rfl
  have hb : Tryz.f46.body = some (Tryz.f46.body.getD .skip) := by kernel_rfl
  exact calls_of_exec2' (P := Tryz.prog) (fn := Tryz.f46) (c := Tryz.f46.body.getD .skip) (args := [Value.int
    IntKind.i64 x]) (w := w) (R := R) pur1_ok Tryz.func46 hb e h

def VC_join (p : Option Addr) (n : Nat) (c : Nat) (s : ByteArray) (w : World) (R : Ending → World → Prop) : Prop :=
 bsp ((↑n : Int) == 0) (R (Ending.returned (Value.string (ByteArray.mk #[]))) w)
 (bsp ((↑n : Int) == 1)
 (nn true p fun (b o : Nat) =>
 ((0 : Int) ≤ 0 ∧ 0 < (↑n : Int)) ∧
 ∃ (x : ByteArray), w.cell? (Addr.mk b o none) = some (Value.string x) ∧ R (Ending.returned (Value.string x)) w)
 (bsp (decide ((↑s.size : Int) > 0))
 ((IntKind.i64 = IntKind.i64 ∧ IntKind.i64.wrap ((↑n : Int) - 1) ≠ 0) ∧
 bsp (decide ((↑s.size : Int) ≥ IntKind.i64.wrap (Int.tdiv 9223372036854775807 (IntKind.i64.wrap ((↑n : Int) - 1)))))
 False
 (∃ (I : List Value → World → Prop),
 ∃ (m : List Value → World → Nat),
 I
 [Value.int IntKind.i64 0,
 Value.int IntKind.i64
 (IntKind.i64.wrap (0 + IntKind.i64.wrap ((↑s.size : Int) * IntKind.i64.wrap ((↑n : Int) - 1))))]
 w ∧
 ∀ (x x_1 : Int) (w' : World),
 I [Value.int IntKind.i64 x, Value.int IntKind.i64 x_1] w' →
 bsp (decide (x < (↑n : Int)))
 (nn true p fun (b o : Nat) =>
 (0 ≤ x ∧ x < (↑n : Int)) ∧
 ∃ (x_2 : ByteArray),
 w'.cell? (Addr.mk b (o + x.toNat) none) = some (Value.string x_2) ∧
 bsp (decide ((↑x_2.size : Int) > IntKind.i64.wrap (9223372036854775807 - x_1))) False
 (I
 [Value.int IntKind.i64 (IntKind.i64.wrap (x + 1)),
 Value.int IntKind.i64 (IntKind.i64.wrap (x_1 + (↑x_2.size : Int)))]
 w' ∧
 m
 [Value.int IntKind.i64 (IntKind.i64.wrap (x + 1)),
 Value.int IntKind.i64 (IntKind.i64.wrap (x_1 + (↑x_2.size : Int)))]
 w' <
 m [Value.int IntKind.i64 x, Value.int IntKind.i64 x_1] w'))
 (∀ (n_1 : Nat) (W : World),
 Loc w.heap.size [Blk.mk n_1 109 [Value.pointer none, Value.slice none 0 0] 2] w' W →
 CallsS Tryz.prog 78 #[Value.pointer (some (Addr.mk n_1 0 none)), Value.int IntKind.i64 x_1] W
 fun (e : Ending) (w' : World) =>
 e = Ending.returned (Value.tuple #[]) ∧
 KeptL [] W w' ∧
 nn true p fun (b o : Nat) =>
 ((0 : Int) ≤ 0 ∧ 0 < (↑n : Int)) ∧
 ∃ (x : ByteArray),
 w'.cell? (Addr.mk b o none) = some (Value.string x) ∧
 CallsS Tryz.prog 48 #[Value.pointer (some (Addr.mk n_1 0 none)), Value.string x] w'
 fun (e : Ending) (w'_1 : World) =>
 ∃ (x : Int),
 ∃ (x_2 : Value),
 e = Ending.returned (Value.tuple #[Value.int IntKind.i64 x, x_2]) ∧
 KeptL [] w' w'_1 ∧
 ((0 : Int) ≤ 1 ∧ 1 ≤ (↑n : Int)) ∧
 ∃ (I : List Value → World → Prop),
 ∃ (m : List Value → World → Nat),
 I [Value.int IntKind.i64 0] w'_1 ∧
 ∀ (x : Int) (w' : World),
 I [Value.int IntKind.i64 x] w' →
 bsp (decide (x < (↑(n - Int.toNat 1) : Int)))
 (nn true (slA p c 1 1) fun (b o : Nat) =>
 (0 ≤ x ∧ x < (↑(n - 1) : Int)) ∧
 ∃ (x_3 : ByteArray),
 w'.cell? (Addr.mk b (o + x.toNat) none) = some (Value.string x_3) ∧
 CallsS Tryz.prog 48 #[Value.pointer (some (Addr.mk n_1 0 none)), Value.string s] w'
 fun (e : Ending) (w'_2 : World) =>
 ∃ (x_4 : Int),
 ∃ (x_5 : Value),
 e = Ending.returned (Value.tuple #[Value.int IntKind.i64 x_4, x_5]) ∧
 KeptL [] w' w'_2 ∧
 CallsS Tryz.prog 48
 #[Value.pointer (some (Addr.mk n_1 0 none)), Value.string x_3] w'_2
 fun (e : Ending) (w'_3 : World) =>
 ∃ (x_6 : Int),
 ∃ (x_7 : Value),
 e = Ending.returned (Value.tuple #[Value.int IntKind.i64 x_6, x_7]) ∧
 KeptL [] w'_2 w'_3 ∧
 I [Value.int IntKind.i64 (IntKind.i64.wrap (x + 1))] w'_3 ∧
 m [Value.int IntKind.i64 (IntKind.i64.wrap (x + 1))] w'_3 <
 m [Value.int IntKind.i64 x] w')
 (CallsS Tryz.prog 50 #[Value.pointer (some (Addr.mk n_1 0 none))] w'
 fun (e : Ending) (w'_2 : World) =>
 ∃ (x : ByteArray),
 e = Ending.returned (Value.string x) ∧
 KeptL [] w' w'_2 ∧ R (Ending.returned (Value.string x)) w'_2))))
 (∃ (I : List Value → World → Prop),
 ∃ (m : List Value → World → Nat),
 I [Value.int IntKind.i64 0, Value.int IntKind.i64 0] w ∧
 ∀ (x x_1 : Int) (w' : World),
 I [Value.int IntKind.i64 x, Value.int IntKind.i64 x_1] w' →
 bsp (decide (x < (↑n : Int)))
 (nn true p fun (b o : Nat) =>
 (0 ≤ x ∧ x < (↑n : Int)) ∧
 ∃ (x_2 : ByteArray),
 w'.cell? (Addr.mk b (o + x.toNat) none) = some (Value.string x_2) ∧
 bsp (decide ((↑x_2.size : Int) > IntKind.i64.wrap (9223372036854775807 - x_1))) False
 (I
 [Value.int IntKind.i64 (IntKind.i64.wrap (x + 1)),
 Value.int IntKind.i64 (IntKind.i64.wrap (x_1 + (↑x_2.size : Int)))]
 w' ∧
 m
 [Value.int IntKind.i64 (IntKind.i64.wrap (x + 1)),
 Value.int IntKind.i64 (IntKind.i64.wrap (x_1 + (↑x_2.size : Int)))]
 w' <
 m [Value.int IntKind.i64 x, Value.int IntKind.i64 x_1] w'))
 (∀ (n_1 : Nat) (W : World),
 Loc w.heap.size [Blk.mk n_1 109 [Value.pointer none, Value.slice none 0 0] 2] w' W →
 CallsS Tryz.prog 78 #[Value.pointer (some (Addr.mk n_1 0 none)), Value.int IntKind.i64 x_1] W
 fun (e : Ending) (w' : World) =>
 e = Ending.returned (Value.tuple #[]) ∧
 KeptL [] W w' ∧
 nn true p fun (b o : Nat) =>
 ((0 : Int) ≤ 0 ∧ 0 < (↑n : Int)) ∧
 ∃ (x : ByteArray),
 w'.cell? (Addr.mk b o none) = some (Value.string x) ∧
 CallsS Tryz.prog 48 #[Value.pointer (some (Addr.mk n_1 0 none)), Value.string x] w'
 fun (e : Ending) (w'_1 : World) =>
 ∃ (x : Int),
 ∃ (x_2 : Value),
 e = Ending.returned (Value.tuple #[Value.int IntKind.i64 x, x_2]) ∧
 KeptL [] w' w'_1 ∧
 ((0 : Int) ≤ 1 ∧ 1 ≤ (↑n : Int)) ∧
 ∃ (I : List Value → World → Prop),
 ∃ (m : List Value → World → Nat),
 I [Value.int IntKind.i64 0] w'_1 ∧
 ∀ (x : Int) (w' : World),
 I [Value.int IntKind.i64 x] w' →
 bsp (decide (x < (↑(n - Int.toNat 1) : Int)))
 (nn true (slA p c 1 1) fun (b o : Nat) =>
 (0 ≤ x ∧ x < (↑(n - 1) : Int)) ∧
 ∃ (x_3 : ByteArray),
 w'.cell? (Addr.mk b (o + x.toNat) none) = some (Value.string x_3) ∧
 CallsS Tryz.prog 48 #[Value.pointer (some (Addr.mk n_1 0 none)), Value.string s] w'
 fun (e : Ending) (w'_2 : World) =>
 ∃ (x_4 : Int),
 ∃ (x_5 : Value),
 e = Ending.returned (Value.tuple #[Value.int IntKind.i64 x_4, x_5]) ∧
 KeptL [] w' w'_2 ∧
 CallsS Tryz.prog 48
 #[Value.pointer (some (Addr.mk n_1 0 none)), Value.string x_3] w'_2
 fun (e : Ending) (w'_3 : World) =>
 ∃ (x_6 : Int),
 ∃ (x_7 : Value),
 e = Ending.returned (Value.tuple #[Value.int IntKind.i64 x_6, x_7]) ∧
 KeptL [] w'_2 w'_3 ∧
 I [Value.int IntKind.i64 (IntKind.i64.wrap (x + 1))] w'_3 ∧
 m [Value.int IntKind.i64 (IntKind.i64.wrap (x + 1))] w'_3 <
 m [Value.int IntKind.i64 x] w')
 (CallsS Tryz.prog 50 #[Value.pointer (some (Addr.mk n_1 0 none))] w'
 fun (e : Ending) (w'_2 : World) =>
 ∃ (x : ByteArray),
 e = Ending.returned (Value.string x) ∧
 KeptL [] w' w'_2 ∧ R (Ending.returned (Value.string x)) w'_2)))))
theorem vc_join (p : Option Addr) (n : Nat) (c : Nat) (s : ByteArray) (w : World) (R : Ending → World → Prop) (h : VC_join p n c s w R) : Calls Tryz.prog 49 ([Value.slice
    p n c,
  Value.string s] : List Value).toArray w R := by
  have e : execR2 { P := Tryz.prog, loops := [(12, [(41, Ck.int IntKind.i64), (5, Ck.int IntKind.i64)]), (22, [(65, Ck.int IntKind.i64)])], pur := pur1, tails := [], joins := [], boxes := [] } Tryz.f49.results.toList R (Tryz.f49.body.getD .skip) (initF [Value.slice
    p n c,
  Value.string
    s] (Tryz.f49.ntmps - ([Value.slice p n c,
  Value.string s] : List Value).length)) w = VC_join p n c s w R := by kernel_rfl
  have hb : Tryz.f49.body = some (Tryz.f49.body.getD .skip) := by kernel_rfl
  exact calls_of_exec2' (P := Tryz.prog) (fn := Tryz.f49) (c := Tryz.f49.body.getD .skip) (args := [Value.slice p n c,
  Value.string s]) (w := w) (R := R) pur1_ok Tryz.func49 hb e h

def VC_acxnumber (s : ByteArray) (m : Int) (w : World) (R : Ending → World → Prop) : Prop :=
 gimp (!(s.toList == [] || decide ((↑s.size : Int) > 10)) && decide ((↑s.size : Int) > 1))
 ((0 : Int) ≤ 0 ∧ 0 < (↑s.size : Int)) ∧
 bsp (s.toList == [] || decide ((↑s.size : Int) > 10) || decide ((↑s.size : Int) > 1) && at8 s 0 == 48)
 (R (Ending.returned (Value.int IntKind.i64 (-1))) w)
 (∃ (I : List Value → World → Prop),
 ∃ (m_1 : List Value → World → Nat),
 I [Value.int IntKind.i64 0, Value.int IntKind.i64 0] w ∧
 ∀ (x x_1 : Int) (w' : World),
 I [Value.int IntKind.i64 x, Value.int IntKind.i64 x_1] w' →
 bsp (decide (x < (↑s.size : Int)))
 ((0 ≤ x ∧ x < (↑s.size : Int)) ∧
 gimp (!decide (at8 s x.toNat < 48)) (0 ≤ x ∧ x < (↑s.size : Int)) ∧
 bsp (decide (at8 s x.toNat < 48) || decide (at8 s x.toNat > 57))
 (R (Ending.returned (Value.int IntKind.i64 (-1))) w')
 ((0 ≤ x ∧ x < (↑s.size : Int)) ∧
 I
 [Value.int IntKind.i64 (IntKind.i64.wrap (x + 1)),
 Value.int IntKind.i64
 (IntKind.i64.wrap
 (IntKind.i64.wrap (10 * x_1) + IntKind.i64.wrap (IntKind.u8.wrap (at8 s x.toNat - 48))))]
 w' ∧
 m_1
 [Value.int IntKind.i64 (IntKind.i64.wrap (x + 1)),
 Value.int IntKind.i64
 (IntKind.i64.wrap
 (IntKind.i64.wrap (10 * x_1) + IntKind.i64.wrap (IntKind.u8.wrap (at8 s x.toNat - 48))))]
 w' <
 m_1 [Value.int IntKind.i64 x, Value.int IntKind.i64 x_1] w'))
 (bsp (decide (x_1 > m)) (R (Ending.returned (Value.int IntKind.i64 (-1))) w')
 (R (Ending.returned (Value.int IntKind.i64 x_1)) w')))
theorem vc_acxnumber (s : ByteArray) (m : Int) (w : World) (R : Ending → World → Prop) (h : VC_acxnumber s m w R) : Calls Tryz.prog 74 ([Value.string
    s,
  Value.int IntKind.i64 m] : List Value).toArray w R := by
  have e : execR2 { P := Tryz.prog, loops := [(5, [(6, Ck.int IntKind.i64), (5, Ck.int IntKind.i64)])], pur := pur1, tails := [], joins := [], boxes := [] } Tryz.f74.results.toList R (Tryz.f74.body.getD .skip) (initF [Value.string
    s,
  Value.int IntKind.i64
    m] (Tryz.f74.ntmps - ([Value.string s,
  Value.int IntKind.i64 m] : List Value).length)) w = VC_acxnumber s m w R := by kernel_rfl
  have hb : Tryz.f74.body = some (Tryz.f74.body.getD .skip) := by kernel_rfl
  exact calls_of_exec2' (P := Tryz.prog) (fn := Tryz.f74) (c := Tryz.f74.body.getD .skip) (args := [Value.string s,
  Value.int IntKind.i64 m]) (w := w) (R := R) pur1_ok Tryz.func74 hb e h

def VC_gncmp1 (s : ByteArray) (t : ByteArray) (w : World) (R : Ending → World → Prop) : Prop :=
 CallsS Tryz.prog 82 #[Value.string s] w fun (e : Ending) (w' : World) =>
 ∃ (p : Option Addr),
 ∃ (n : Nat),
 ∃ (c : Nat),
 e = Ending.returned (Value.slice p n c) ∧
 CallsS Tryz.prog 82 #[Value.string t] w' fun (e : Ending) (w' : World) =>
 ∃ (p_1 : Option Addr),
 ∃ (n_1 : Nat),
 ∃ (c_1 : Nat),
 e = Ending.returned (Value.slice p_1 n_1 c_1) ∧
 CallsS Tryz.prog 81 #[Value.slice p n c, Value.slice p_1 n_1 c_1] w' fun (e : Ending) (w' : World) =>
 ∃ (x : Int), e = Ending.returned (Value.int IntKind.i64 x) ∧ R (Ending.returned (Value.int IntKind.i64 x)) w'
theorem vc_gncmp1 (s : ByteArray) (t : ByteArray) (w : World) (R : Ending → World → Prop) (h : VC_gncmp1 s t w R) : Calls Tryz.prog 52 ([Value.string
    s,
  Value.string t] : List Value).toArray w R := by
  have e : execR { P := Tryz.prog, loops := [], pur := pur1, tails := [], joins := [], boxes := [] } Tryz.f52.results.toList R (Tryz.f52.body.getD .skip) (initF [Value.string
    s,
  Value.string
    t] (Tryz.f52.ntmps - ([Value.string s, Value.string t] : List Value).length)) w = VC_gncmp1 s t w R := by kernel_rfl
  have hb : Tryz.f52.body = some (Tryz.f52.body.getD .skip) := by kernel_rfl
  exact calls_of_exec' (P := Tryz.prog) (fn := Tryz.f52) (c := Tryz.f52.body.getD .skip) (args := [Value.string s,
  Value.string t]) (w := w) (R := R) pur1_ok Tryz.func52 hb e h

def VC_slcmp1 (p : Option Addr) (n : Nat) (c : Nat) (q : Option Addr) (k : Nat) (d : Nat) (w : World) (R : Ending → World → Prop) : Prop :=
 ∃ (I : List Value → World → Prop),
 ∃ (m : List Value → World → Nat),
 I [Value.int IntKind.i64 0] w ∧
 ∀ (x : Int) (w' : World),
 I [Value.int IntKind.i64 x] w' →
 bsp (decide (x < (↑n : Int)))
 (nn true p fun (b o : Nat) =>
 (0 ≤ x ∧ x < (↑n : Int)) ∧
 ∃ (x_1 : ByteArray),
 w'.cell? (Addr.mk b (o + x.toNat) none) = some (Value.string x_1) ∧
 bsp (decide (x ≥ (↑k : Int))) (R (Ending.returned (Value.int IntKind.i64 1)) w')
 (nn true q fun (b o : Nat) =>
 (0 ≤ x ∧ x < (↑k : Int)) ∧
 ∃ (x_2 : ByteArray),
 w'.cell? (Addr.mk b (o + x.toNat) none) = some (Value.string x_2) ∧
 CallsS Tryz.prog 108 #[Value.string x_1, Value.string x_2] w' fun (e : Ending) (w'_1 : World) =>
 ∃ (x_3 : Int),
 e = Ending.returned (Value.int IntKind.i64 x_3) ∧
 bsp (x_3 != 0) (R (Ending.returned (Value.int IntKind.i64 x_3)) w'_1)
 (I [Value.int IntKind.i64 (IntKind.i64.wrap (x + 1))] w'_1 ∧
 m [Value.int IntKind.i64 (IntKind.i64.wrap (x + 1))] w'_1 < m [Value.int IntKind.i64 x] w')))
 (bsp (decide ((↑n : Int) < (↑k : Int))) (R (Ending.returned (Value.int IntKind.i64 (-1))) w')
 (R (Ending.returned (Value.int IntKind.i64 0)) w'))
theorem vc_slcmp1 (p : Option Addr) (n : Nat) (c : Nat) (q : Option Addr) (k : Nat) (d : Nat) (w : World) (R : Ending → World → Prop) (h : VC_slcmp1 p n c q k d w R) : Calls Tryz.prog 81 ([Value.slice
    p n c,
  Value.slice q k d] : List Value).toArray w R := by
  have e : execR { P := Tryz.prog, loops := [(2, [(11, Ck.int IntKind.i64)])], pur := pur1, tails := [], joins := [], boxes := [] } Tryz.f81.results.toList R (Tryz.f81.body.getD .skip) (initF [Value.slice
    p n c,
  Value.slice q k
    d] (Tryz.f81.ntmps - ([Value.slice p n c,
  Value.slice q k d] : List Value).length)) w = VC_slcmp1 p n c q k d w R := by kernel_rfl
  have hb : Tryz.f81.body = some (Tryz.f81.body.getD .skip) := by kernel_rfl
  exact calls_of_exec' (P := Tryz.prog) (fn := Tryz.f81) (c := Tryz.f81.body.getD .skip) (args := [Value.slice p n c,
  Value.slice q k d]) (w := w) (R := R) pur1_ok Tryz.func81 hb e h

def VC_gparts1 (s : ByteArray) (w : World) (R : Ending → World → Prop) : Prop :=
 CallsS Tryz.prog 68 #[Value.string s, Value.string (ByteArray.mk #[46])] w fun (e : Ending) (w' : World) =>
 ∃ (p : Option Addr),
 ∃ (n : Nat), ∃ (c : Nat), e = Ending.returned (Value.slice p n c) ∧ R (Ending.returned (Value.slice p n c)) w'
theorem vc_gparts1 (s : ByteArray) (w : World) (R : Ending → World → Prop) (h : VC_gparts1 s w R) : Calls Tryz.prog 82 ([Value.string
    s] : List Value).toArray w R := by
  have e : execR { P := Tryz.prog, loops := [], pur := pur1, tails := [], joins := [], boxes := [] } Tryz.f82.results.toList R (Tryz.f82.body.getD .skip) (initF [Value.string
    s] (Tryz.f82.ntmps - ([Value.string s] : List Value).length)) w = VC_gparts1 s w R := by kernel_rfl
  have hb : Tryz.f82.body = some (Tryz.f82.body.getD .skip) := by kernel_rfl
  exact calls_of_exec' (P := Tryz.prog) (fn := Tryz.f82) (c := Tryz.f82.body.getD .skip) (args := [Value.string
    s]) (w := w) (R := R) pur1_ok Tryz.func82 hb e h

def VC_xr12 (s : ByteArray) (t : ByteArray) (w : World) (R : Ending → World → Prop) : Prop :=
 CallsS Tryz.prog 71 #[Value.string s, Value.int IntKind.u8 46] w fun (e : Ending) (w' : World) =>
 ∃ (p : Option Addr),
 ∃ (n : Nat),
 ∃ (c : Nat),
 e = Ending.returned (Value.slice p n c) ∧
 KeptL [] w w' ∧
 CallsS Tryz.prog 71 #[Value.string t, Value.int IntKind.u8 46] w' fun (e : Ending) (w'_1 : World) =>
 ∃ (p_1 : Option Addr),
 ∃ (n_1 : Nat),
 ∃ (c : Nat),
 e = Ending.returned (Value.slice p_1 n_1 c) ∧
 KeptL [] w' w'_1 ∧
 ∃ (I : List Value → World → Prop),
 ∃ (m : List Value → World → Nat),
 I [Value.int IntKind.i64 0] w'_1 ∧
 ∀ (x : Int) (w' : World),
 I [Value.int IntKind.i64 x] w' →
 bsp (decide (x < (↑n : Int)) && decide (x < (↑n_1 : Int)))
 (nn true p fun (b o : Nat) =>
 (0 ≤ x ∧ x < (↑n : Int)) ∧
 ∃ (x_1 : ByteArray),
 (∀ (W : World),
 Loc w.heap.size [] w' W → W.cell? (Addr.mk b (o + x.toNat) none) = some (Value.string x_1)) ∧
 nn true p_1 fun (b o : Nat) =>
 (0 ≤ x ∧ x < (↑n_1 : Int)) ∧
 ∃ (x_2 : ByteArray),
 (∀ (W : World),
 Loc w.heap.size [] w' W → W.cell? (Addr.mk b (o + x.toNat) none) = some (Value.string x_2)) ∧
 bsp (Op.bytesLess x_1.toList x_2.toList)
 (∀ (W : World), Loc w.heap.size [] w' W → R (Ending.returned (Value.int IntKind.i64 (-1))) W)
 (nn true p fun (b o : Nat) =>
 (0 ≤ x ∧ x < (↑n : Int)) ∧
 ∃ (x_3 : ByteArray),
 (∀ (W : World),
 Loc w.heap.size [] w' W →
 W.cell? (Addr.mk b (o + x.toNat) none) = some (Value.string x_3)) ∧
 nn true p_1 fun (b o : Nat) =>
 (0 ≤ x ∧ x < (↑n_1 : Int)) ∧
 ∃ (x_4 : ByteArray),
 (∀ (W : World),
 Loc w.heap.size [] w' W →
 W.cell? (Addr.mk b (o + x.toNat) none) = some (Value.string x_4)) ∧
 bsp (!(Op.bytesLess x_3.toList x_4.toList || x_3.toList == x_4.toList))
 (∀ (W : World),
 Loc w.heap.size [] w' W → R (Ending.returned (Value.int IntKind.i64 1)) W)
 (∀ (W : World),
 Loc w.heap.size [] w' W →
 I [Value.int IntKind.i64 (IntKind.i64.wrap (x + 1))] W ∧
 m [Value.int IntKind.i64 (IntKind.i64.wrap (x + 1))] W <
 m [Value.int IntKind.i64 x] w')))
 (bsp (decide ((↑n : Int) < (↑n_1 : Int))) (R (Ending.returned (Value.int IntKind.i64 (-1))) w')
 (bsp (decide ((↑n : Int) > (↑n_1 : Int))) (R (Ending.returned (Value.int IntKind.i64 1)) w')
 (R (Ending.returned (Value.int IntKind.i64 0)) w')))
theorem vc_xr12 (s : ByteArray) (t : ByteArray) (w : World) (R : Ending → World → Prop) (h : VC_xr12 s t w R) : Calls Tryz.prog 73 ([Value.string
    s,
  Value.string t] : List Value).toArray w R := by
  have e : execR2 { P := Tryz.prog, loops := [(3, [(7, Ck.int IntKind.i64)])], pur := pur1, tails := [], joins := [], boxes := [] } Tryz.f73.results.toList R (Tryz.f73.body.getD .skip) (initF [Value.string
    s,
  Value.string
    t] (Tryz.f73.ntmps - ([Value.string s, Value.string t] : List Value).length)) w = VC_xr12 s t w R := by kernel_rfl
  have hb : Tryz.f73.body = some (Tryz.f73.body.getD .skip) := by kernel_rfl
  exact calls_of_exec2' (P := Tryz.prog) (fn := Tryz.f73) (c := Tryz.f73.body.getD .skip) (args := [Value.string s,
  Value.string t]) (w := w) (R := R) pur1_ok Tryz.func73 hb e h

def VC_achasC (x : Int) (y : Int) (b : Nat) (w : World) (R : Ending → World → Prop) : Prop :=
 ∀ (n : Nat),
 ∃ (x_1 : Int),
 (∀ (W : World),
 Loc w.heap.size [Blk.mk n 105 [Value.int IntKind.i64 x, Value.int IntKind.i64 y] 2] w W →
 W.cell? (Addr.mk b 0 none) = some (Value.int IntKind.i64 x_1)) ∧
 ∃ (x_2 : Int),
 gimp (decide (x ≤ x_1))
 (∀ (W : World),
 Loc w.heap.size [Blk.mk n 105 [Value.int IntKind.i64 x, Value.int IntKind.i64 y] 2] w W →
 W.cell? (Addr.mk b 0 none) = some (Value.int IntKind.i64 x_2)) ∧
 ∃ (x_3 : Int),
 gimp (decide (x ≤ x_1))
 (∀ (W : World),
 Loc w.heap.size [Blk.mk n 105 [Value.int IntKind.i64 x, Value.int IntKind.i64 y] 2] w W →
 W.cell? (Addr.mk n (0 + 1) none) = some (Value.int IntKind.i64 x_3)) ∧
 ∀ (W : World),
 Loc w.heap.size [Blk.mk n 105 [Value.int IntKind.i64 x, Value.int IntKind.i64 y] 2] w W →
 R (Ending.returned (Value.bool (decide (x ≤ x_1) && decide (x_2 ≤ x_3)))) W
theorem vc_achasC (x : Int) (y : Int) (b : Nat) (w : World) (R : Ending → World → Prop) (h : VC_achasC x y b w R) : Calls Tryz.prog 86 ([Value.agg
    #[Value.int IntKind.i64 x, Value.int IntKind.i64 y],
  Value.pointer (some { block := b, off := 0 })] : List Value).toArray w R := by
  have e : execR2 { P := Tryz.prog, loops := [], pur := pur1, tails := [], joins := [], boxes := [] } Tryz.f86.results.toList R (Tryz.f86.body.getD .skip) (initF [Value.agg
    #[Value.int IntKind.i64 x, Value.int IntKind.i64 y],
  Value.pointer
    (some
      { block := b,
        off :=
          0 })] (Tryz.f86.ntmps - ([Value.agg #[Value.int IntKind.i64 x, Value.int IntKind.i64 y],
  Value.pointer (some { block := b, off := 0 })] : List Value).length)) w = VC_achasC x y b w R := by kernel_rfl
  have hb : Tryz.f86.body = some (Tryz.f86.body.getD .skip) := by kernel_rfl
  exact calls_of_exec2' (P := Tryz.prog) (fn := Tryz.f86) (c := Tryz.f86.body.getD .skip) (args := [Value.agg
    #[Value.int IntKind.i64 x, Value.int IntKind.i64 y],
  Value.pointer (some { block := b, off := 0 })]) (w := w) (R := R) pur1_ok Tryz.func86 hb e h

def VC_ackeepC (x : Int) (y : Int) (b : Nat) (w : World) (R : Ending → World → Prop) : Prop :=
 bsp (decide (x ≤ y))
 (∃ (p : Option Addr),
 ∃ (n : Nat),
 ∃ (c : Nat),
 w.cell? (Addr.mk b 0 none) = some (Value.slice p n c) ∧
 ∀ (n_1 : Nat) (W : World),
 Loc w.heap.size [Blk.mk n_1 105 [Value.int IntKind.i64 x, Value.int IntKind.i64 y] 2] w W →
 ∃ (base : Nat),
 ∃ (xs : List Value),
 W.ownsRow base 105 2 (Value.slice p n c) n xs ∧
 n + 1 ≤ 9223372036854775807 ∧
 (n + 1) * 16 ≤ 140737488355328 ∧
 base ≤ W.heap.size ∧
 ∀ (p' : Option Addr) (c' : Nat) (w' : World),
 w'.ownsRow base 105 2 (Value.slice p' (n + 1) c') (n + 1)
 (xs ++ [Value.int IntKind.i64 x, Value.int IntKind.i64 y]) →
 W.grownBy w' (Value.slice p n c).ownBlock →
 AppL W p n c 1 p' c' →
 KeptL [] W w' ∧
 ((∃ (u : Value), w'.cell? (Addr.mk b 0 none) = some u) ∧ w'.frozen? (Addr.mk b 0 none) = false) ∧
 ∀ (w1 : World),
 PutB w' b 0 [Value.slice p' (n + 1) c'] w1 →
 KeptL [] w' w1 ∧ R (Ending.returned (Value.tuple #[])) w1)
 (R (Ending.returned (Value.tuple #[])) w)
theorem vc_ackeepC (x : Int) (y : Int) (b : Nat) (w : World) (R : Ending → World → Prop) (h : VC_ackeepC x y b w R) : Calls Tryz.prog 65 ([Value.int
    IntKind.i64 x,
  Value.int IntKind.i64 y, Value.pointer (some { block := b, off := 0 })] : List Value).toArray w R := by
  have e : execR2 { P := Tryz.prog, loops := [], pur := pur1, tails := [], joins := [], boxes := [] } Tryz.f65.results.toList R (Tryz.f65.body.getD .skip) (initF [Value.int
    IntKind.i64 x,
  Value.int IntKind.i64 y,
  Value.pointer
    (some
      { block := b,
        off :=
          0 })] (Tryz.f65.ntmps - ([Value.int IntKind.i64 x, Value.int IntKind.i64 y,
  Value.pointer (some { block := b, off := 0 })] : List Value).length)) w = VC_ackeepC x y b w R := by kernel_rfl
  have hb : Tryz.f65.body = some (Tryz.f65.body.getD .skip) := by kernel_rfl
  exact calls_of_exec2' (P := Tryz.prog) (fn := Tryz.f65) (c := Tryz.f65.body.getD .skip) (args := [Value.int
    IntKind.i64 x,
  Value.int IntKind.i64 y, Value.pointer (some { block := b, off := 0 })]) (w := w) (R := R) pur1_ok Tryz.func65 hb e h

def VC_ivconF (p : Option Addr) (n : Nat) (c : Nat) (f : FuncId) (fa : Array Value) (fb : Array Value) (w : World) (R : Ending → World → Prop) : Prop :=
 CallsS Tryz.prog 109 #[Value.slice p n c, Value.func (Fn.func f) fa fb] w fun (e : Ending) (w' : World) =>
 ∃ (x : Int),
 e = Ending.returned (Value.int IntKind.i64 x) ∧ KeptL [] w w' ∧ R (Ending.returned (Value.bool (decide (x ≥ 0)))) w'
theorem vc_ivconF (p : Option Addr) (n : Nat) (c : Nat) (f : FuncId) (fa : Array Value) (fb : Array Value) (w : World) (R : Ending → World → Prop) (h : VC_ivconF p n c f fa fb w R) : Calls Tryz.prog 85 ([Value.slice
    p n c,
  Value.func (Fn.func f) fa fb] : List Value).toArray w R := by
  have e : execR2 { P := Tryz.prog, loops := [], pur := pur1, tails := [], joins := [], boxes := [] } Tryz.f85.results.toList R (Tryz.f85.body.getD .skip) (initF [Value.slice
    p n c,
  Value.func (Fn.func f) fa
    fb] (Tryz.f85.ntmps - ([Value.slice p n c,
  Value.func (Fn.func f) fa fb] : List Value).length)) w = VC_ivconF p n c f fa fb w R := by kernel_rfl
  have hb : Tryz.f85.body = some (Tryz.f85.body.getD .skip) := by kernel_rfl
  exact calls_of_exec2' (P := Tryz.prog) (fn := Tryz.f85) (c := Tryz.f85.body.getD .skip) (args := [Value.slice p n c,
  Value.func (Fn.func f) fa fb]) (w := w) (R := R) pur1_ok Tryz.func85 hb e h

def VC_ividxF (p : Option Addr) (n : Nat) (c : Nat) (f : FuncId) (fa : Array Value) (fb : Array Value) (w : World) (R : Ending → World → Prop) : Prop :=
 ∃ (I : List Value → World → Prop),
 ∃ (m : List Value → World → Nat),
 I [Value.int IntKind.i64 0] w ∧
 ∀ (x : Int) (w' : World),
 I [Value.int IntKind.i64 x] w' →
 bsp (decide (x < (↑n : Int)))
 (nn true p fun (b o : Nat) =>
 (0 ≤ x ∧ x < (↑n : Int)) ∧
 ∃ (x_1 : Int),
 ∃ (x_2 : Int),
 AtL w' b (o + x.toNat * 2) [Value.int IntKind.i64 x_1, Value.int IntKind.i64 x_2] ∧
 ∃ (f_1 : Nat),
 ∃ (a : Array Value),
 ∃ (b : Array Value),
 Value.func (Fn.func f) fa fb = Value.func (Fn.func f_1) a b ∧
 okFn Tryz.prog f_1 = true ∧
 CallsS Tryz.prog f_1 (appA a [Value.agg #[Value.int IntKind.i64 x_1, Value.int IntKind.i64 x_2]] b) w'
 fun (e : Ending) (w'_1 : World) =>
 ∃ (x_3 : Bool),
 e = Ending.returned (Value.bool x_3) ∧
 KeptL [] w' w'_1 ∧
 bsp x_3 (R (Ending.returned (Value.int IntKind.i64 x)) w'_1)
 (I [Value.int IntKind.i64 (IntKind.i64.wrap (x + 1))] w'_1 ∧
 m [Value.int IntKind.i64 (IntKind.i64.wrap (x + 1))] w'_1 < m [Value.int IntKind.i64 x] w'))
 (R (Ending.returned (Value.int IntKind.i64 (-1))) w')
theorem vc_ividxF (p : Option Addr) (n : Nat) (c : Nat) (f : FuncId) (fa : Array Value) (fb : Array Value) (w : World) (R : Ending → World → Prop) (h : VC_ividxF p n c f fa fb w R) : Calls Tryz.prog 109 ([Value.slice
    p n c,
  Value.func (Fn.func f) fa fb] : List Value).toArray w R := by
  have e : execR2 { P := Tryz.prog, loops := [(2, [(8, Ck.int IntKind.i64)])], pur := pur1, tails := [], joins := [], boxes := [] } Tryz.f109.results.toList R (Tryz.f109.body.getD .skip) (initF [Value.slice
    p n c,
  Value.func (Fn.func f) fa
    fb] (Tryz.f109.ntmps - ([Value.slice p n c,
  Value.func (Fn.func f) fa fb] : List Value).length)) w = VC_ividxF p n c f fa fb w R := by kernel_rfl
  have hb : Tryz.f109.body = some (Tryz.f109.body.getD .skip) := by kernel_rfl
  exact calls_of_exec2' (P := Tryz.prog) (fn := Tryz.f109) (c := Tryz.f109.body.getD .skip) (args := [Value.slice p n c,
  Value.func (Fn.func f) fa fb]) (w := w) (R := R) pur1_ok Tryz.func109 hb e h

def VC_ivequal (p : Option Addr) (n : Nat) (c : Nat) (q : Option Addr) (k : Nat) (d : Nat) (w : World) (R : Ending → World → Prop) : Prop :=
 bsp ((↑n : Int) != (↑k : Int)) (R (Ending.returned (Value.bool false)) w)
 (∃ (I : List Value → World → Prop),
 ∃ (m : List Value → World → Nat),
 I [Value.int IntKind.i64 0] w ∧
 ∀ (x : Int) (w' : World),
 I [Value.int IntKind.i64 x] w' →
 bsp (decide (x < (↑n : Int)))
 (nn true p fun (b o : Nat) =>
 (0 ≤ x ∧ x < (↑n : Int)) ∧
 ∃ (x_1 : Int),
 ∃ (x_2 : Int),
 (∀ (W : World),
 Loc w.heap.size [] w' W →
 AtL W b (o + x.toNat * 2) [Value.int IntKind.i64 x_1, Value.int IntKind.i64 x_2]) ∧
 nn true q fun (b o : Nat) =>
 (0 ≤ x ∧ x < (↑k : Int)) ∧
 ∃ (x_3 : Int),
 ∃ (x_4 : Int),
 (∀ (W : World),
 Loc w.heap.size [] w' W →
 AtL W b (o + x.toNat * 2) [Value.int IntKind.i64 x_3, Value.int IntKind.i64 x_4]) ∧
 ∃ (r : Bool),
 EqP Tryz.prog 105 (Value.agg #[Value.int IntKind.i64 x_1, Value.int IntKind.i64 x_2])
 (Value.agg #[Value.int IntKind.i64 x_3, Value.int IntKind.i64 x_4]) r ∧
 bsp (!r) (∀ (W : World), Loc w.heap.size [] w' W → R (Ending.returned (Value.bool false)) W)
 (∀ (W : World),
 Loc w.heap.size [] w' W →
 I [Value.int IntKind.i64 (IntKind.i64.wrap (x + 1))] W ∧
 m [Value.int IntKind.i64 (IntKind.i64.wrap (x + 1))] W < m [Value.int IntKind.i64 x] w'))
 (R (Ending.returned (Value.bool true)) w'))
theorem vc_ivequal (p : Option Addr) (n : Nat) (c : Nat) (q : Option Addr) (k : Nat) (d : Nat) (w : World) (R : Ending → World → Prop) (h : VC_ivequal p n c q k d w R) : Calls Tryz.prog 59 ([Value.slice
    p n c,
  Value.slice q k d] : List Value).toArray w R := by
  have e : execR2 { P := Tryz.prog, loops := [(4, [(13, Ck.int IntKind.i64)])], pur := pur1, tails := [], joins := [], boxes := [] } Tryz.f59.results.toList R (Tryz.f59.body.getD .skip) (initF [Value.slice
    p n c,
  Value.slice q k
    d] (Tryz.f59.ntmps - ([Value.slice p n c,
  Value.slice q k d] : List Value).length)) w = VC_ivequal p n c q k d w R := by kernel_rfl
  have hb : Tryz.f59.body = some (Tryz.f59.body.getD .skip) := by kernel_rfl
  exact calls_of_exec2' (P := Tryz.prog) (fn := Tryz.f59) (c := Tryz.f59.body.getD .skip) (args := [Value.slice p n c,
  Value.slice q k d]) (w := w) (R := R) pur1_ok Tryz.func59 hb e h

def VC_isDig27 (c : Int) (w : World) (R : Ending → World → Prop) : Prop :=
 R (Ending.returned (Value.bool (decide (c ≥ 48) && decide (c ≤ 57)))) w
theorem vc_isDig27 (c : Int) (w : World) (R : Ending → World → Prop) (h : VC_isDig27 c w R) : Calls Tryz.prog 93 ([Value.int
    IntKind.u8 c] : List Value).toArray w R := by
  have e : execR { P := Tryz.prog, loops := [], pur := pur1, tails := [], joins := [], boxes := [] } Tryz.f93.results.toList R (Tryz.f93.body.getD .skip) (initF [Value.int
    IntKind.u8
    c] (Tryz.f93.ntmps - ([Value.int IntKind.u8 c] : List Value).length)) w = VC_isDig27 c w R := by kernel_rfl
  have hb : Tryz.f93.body = some (Tryz.f93.body.getD .skip) := by kernel_rfl
  exact calls_of_exec' (P := Tryz.prog) (fn := Tryz.f93) (c := Tryz.f93.body.getD .skip) (args := [Value.int IntKind.u8
    c]) (w := w) (R := R) pur1_ok Tryz.func93 hb e h

end Go.Proofs.YtgmmoghagpmpfaaGreatDoor

/- Chapter 27: the contracts of ascii.Number, ascii.Digits, strings.Join (a byte between), the reference's decimal numbers. Texts are not too long; the library's table of powers of ten reads as laid. -/
namespace Go.Proofs.YtgmmoghagpmpfaaGreatDoor
open Go.RowKit

/-! ### Numbers -/
def SkipTo (p : Int → Bool) (s : ByteArray) (a i : Nat) : Prop := a ≤ i ∧ i ≤ s.size ∧ (∀ j, a ≤ j → j < i → p (at8 s j) = true) ∧ (i < s.size → p (at8 s i) = false)
theorem SkipTo.uniq {p : Int → Bool} {s : ByteArray} {a i k : Nat} (h : SkipTo p s a i) (g : SkipTo p s a k) : i = k := by
  obtain ⟨h1, h2, h3, h4⟩ := h
  obtain ⟨g1, g2, g3, g4⟩ := g
  rcases Nat.lt_trichotomy i k with h | h | h
  · have := g3 i h1 h; rw [h4 (by omega)] at this; cases this
  · exact h
  · have := h3 k g1 h; rw [g4 (by omega)] at this; cases this
theorem skip_any (s : ByteArray) (k : Nat) (f : FuncId) (fa fb : Array Value) (g : Int → Bool) (w : World) (hk : k ≤ s.size) (hs : s.size ≤ 4294967296) (hok : okFn Tryz.prog f = true)
    (hF : ∀ c, 0 ≤ c ∧ c ≤ 255 → ∀ w1, K0 w w1 → Calls Tryz.prog f (appA fa [.int .u8 c] fb) w1 fun e w2 => e = .returned (.bool (g c)) ∧ K0 w1 w2) :
    Calls Tryz.prog 92 #[.string s, .int .i64 k, .func (.func f) fa fb] w fun e w' => (∃ i : Nat, e = .returned (.int .i64 i) ∧ SkipTo g s k i) ∧ K0 w w' := by
  refine vc_skip s k f fa fb w _ ?_
  refine ⟨fun vs w' => ∃ i : Nat, vs = [.int .i64 (i : Int)] ∧ k ≤ i ∧ i ≤ s.size ∧ (∀ j, k ≤ j → j < i → g (at8 s j) = true) ∧ K0 w w',
    fun vs _ => (match vs with | .int _ x :: _ => s.size - x.toNat | _ => 0), ⟨k, rfl, by omega, hk, (fun j h1 h2 => by omega), .refl _ _⟩, ?_⟩
  rintro x w1 ⟨i, hv, h1, hi, hall, k1⟩
  simp only [List.cons.injEq, Value.int.injEq, true_and, and_true] at hv
  subst hv
  refine ⟨gimp_intro fun h => ⟨by omega, by simpa using h⟩, bsp_intro (fun hlt => ?_) (fun hge => ?_)⟩
  · have hlt : i < s.size := by simp at hlt; omega
    rw [Int.toNat_natCast]
    refine ⟨f, fa, fb, rfl, hok, ⟨(hF (at8 s i) (at8_bd s i) w1 k1).mono fun e w2 ⟨he, k2⟩ => ⟨_, he, .of_k0 k2, bsp_intro (fun hg => ?_) (fun hg => ?_)⟩⟩⟩
    · have hg : g (at8 s i) = true := by simpa using hg
      refine ⟨⟨i + 1, by rw [inc64 (by omega)], by omega, hlt, fun j hj hj2 => ?_, k1.trans k2⟩, by rw [inc64 (by omega)]; simp only [Int.toNat_natCast]; omega⟩
      by_cases e : j = i
      · rw [e]; exact hg
      · exact hall j hj (by omega)
    · have hg : g (at8 s i) = false := by simpa using hg
      exact ⟨⟨i, rfl, h1, hi, hall, fun _ => hg⟩, k1.trans k2⟩
  · exact ⟨.refl _ _, ⟨i, rfl, h1, hi, hall, fun h => by simp at hge; omega⟩, k1⟩
theorem isDigit_any (c : Int) (w : World) : Calls Tryz.prog 93 #[.int .u8 c] w fun e w' => e = .returned (.bool (digitB c)) ∧ w' = w := vc_isDig27 c w _ ⟨rfl, rfl⟩
theorem dig_i (c : Int) : digitB c = true ↔ 48 ≤ c ∧ c ≤ 57 := by unfold digitB; simp
theorem dig_wr {c : Int} (h : 48 ≤ c ∧ c ≤ 57) : IntKind.i64.wrap (IntKind.u8.wrap (c - 48)) = c - 48 := by
  rw [IntWalk.u8_in _ ⟨by omega, by omega⟩, wr64 (by omega) (by omega)]
theorem anum_any (s : ByteArray) (m : Int) (w : World) (hs : s.size ≤ 4294967296) (hm : m ≤ 4611686018427387904) :
    Calls Tryz.prog 69 #[.string s, .int .i64 m] w fun e w' => e = .returned (.tuple #[.int .i64 (numR s m).1, .int .i64 (numR s m).2]) ∧ K0 w w' := by
  refine vc_anum s m w _ ?_
  unfold VC_anum
  rw [toList_nil]
  refine bsp_intro (fun h0 => ?_) (fun h0 => ?_)
  · have h0 : ¬ s.size = 0 := by simpa using h0
    have h0 : 0 < s.size := by omega
    refine ⟨(skip_any s 0 93 #[] #[] digitB w (by omega) hs (by kernel_rfl) (fun c _ w1 _ => (isDigit_any c w1).mono fun e w2 ⟨he, hw⟩ => ⟨he, by rw [hw]; exact .refl _ _⟩)).mono fun e w1 ⟨⟨i, he, _, hi, hall, hst⟩, k1⟩ => ⟨_, he, .of_k0 k1, gimp_intro fun _ => ⟨by omega, by omega⟩, bsp_intro (fun hb => ?_) (fun hb => ?_)⟩⟩
    · have hn : ¬ NumOK s := by
        rintro ⟨_, hd, hz⟩
        simp only [Bool.false_or, Bool.or_eq_true, Bool.and_eq_true, decide_eq_true_eq, beq_iff_eq] at hb
        rcases hb with hb | ⟨h1, h2⟩
        · have hlt : i < s.size := by omega
          have := (dig_i _).2 (hd i hlt)
          rw [hst hlt] at this
          cases this
        · exact hz (by omega) h2
      exact ⟨by unfold numR; rw [if_neg hn], k1⟩
    have hb' : ¬ ((i : Int) < (s.size : Int)) ∧ ¬ ((s.size : Int) > 1 ∧ at8 s 0 = 48) := by
      simp only [Bool.false_or, Bool.or_eq_false_iff, Bool.and_eq_false_iff, decide_eq_false_iff_not, beq_eq_false_iff_ne] at hb
      exact ⟨hb.1, fun h => hb.2.elim (fun h2 => h2 h.1) (fun h2 => h2 h.2)⟩
    have hd : ∀ j, j < s.size → 48 ≤ at8 s j ∧ at8 s j ≤ 57 := fun j hj => (dig_i _).1 (hall j (by omega) (by omega))
    have hok : NumOK s := ⟨h0, hd, fun h1 h2 => hb'.2 ⟨by omega, h2⟩⟩
    refine bsp_intro (fun hneg => ?_) (fun hneg => ?_)
    · exact ⟨by unfold numR; rw [if_pos hok, if_pos (by simpa using hneg)], k1⟩
    have hneg : ¬ m < 0 := by simpa using hneg
    have eR : numR s m = if nvF s s.size ≤ m then (nvF s s.size, 0) else (0, 2) := by unfold numR; rw [if_pos hok, if_neg hneg]
    rw [eR]
    refine ⟨fun vs w' => ∃ k : Nat, vs = [.int .i64 (k : Int), .int .i64 (nvF s k)] ∧ k ≤ s.size ∧ nvF s k ≤ m ∧ K0 w w',
      fun vs _ => (match vs with | .int _ x :: _ => s.size - x.toNat | _ => 0), ⟨0, rfl, by omega, by simp [nvF]; omega, k1⟩, ?_⟩
    rintro x y w2 ⟨k, hv, hk, hle, k2⟩
    simp only [List.cons.injEq, Value.int.injEq, true_and, and_true] at hv
    obtain ⟨rfl, rfl⟩ := hv
    have hnn := nvF_nonneg hd k hk
    refine bsp_intro (fun hlt => ?_) (fun hge => ?_)
    · have hlt : k < s.size := by simp at hlt; omega
      have hdk := hd k hlt
      rw [Int.toNat_natCast, dig_wr hdk, Int.tdiv_eq_ediv_of_nonneg (by omega), Int.tmod_eq_emod_of_nonneg (by omega), wr64 (x := m / 10) (by omega) (by omega)]
      have e1 : nvF s (k + 1) = 10 * nvF s k + (at8 s k - 48) := rfl
      refine ⟨⟨by omega, by omega⟩, bsp_intro (fun hg => ?_) (fun hg => ?_)⟩
      · have hgt : m < nvF s (k + 1) := by
          simp only [Bool.or_eq_true, Bool.and_eq_true, decide_eq_true_eq, beq_iff_eq] at hg
          omega
        have hmo := nvF_mono hd (k + 1) (s.size - (k + 1)) (by omega)
        rw [show k + 1 + (s.size - (k + 1)) = s.size by omega] at hmo
        exact ⟨by rw [if_neg (by omega)], k2⟩
      · have hgt : nvF s (k + 1) ≤ m := by
          simp only [Bool.or_eq_false_iff, Bool.and_eq_false_iff, decide_eq_false_iff_not, beq_eq_false_iff_ne] at hg
          omega
        rw [inc64 (by omega), wr64 (x := 10 * nvF s k) (by omega) (by omega), wr64 (x := 10 * nvF s k + (at8 s k - 48)) (by omega) (by omega)]
        exact ⟨⟨k + 1, rfl, hlt, hgt, k2⟩, by simp only [Int.toNat_natCast]; omega⟩
    · have hk' : k = s.size := by simp at hge; omega
      subst hk'
      exact ⟨by rw [if_pos hle], k2⟩
  · have h0 : s.size = 0 := by simpa using h0
    exact ⟨.refl _ _, trivial, by unfold numR; rw [if_neg (fun h => by have := h.1; omega)], .refl _ _⟩

/-- The table of powers of ten reads as it was laid. -/
def GT (w : World) : Prop := Lib.TabIs Tryz.prog w "internal/strconv.uint64pow10" .u64 Lib.pow10Tab
theorem GT.k0 {w w' : World} (h : GT w) (hk : K0 w w') : GT w' := by
  unfold GT Lib.TabIs World.var? at *
  cases hg : Tryz.prog.globalNamed "internal/strconv.uint64pow10" with
  | none => simp [hg] at h
  | some g =>
    simp only [hg, Option.bind_some] at h ⊢
    have hlt : g < w.heap.size := by
      rcases Nat.lt_or_ge g w.heap.size with h' | h'
      · exact h'
      · rw [Array.getElem?_eq_none h'] at h; simp at h
    rw [hk.block g hlt (fun h => h)]
    exact h
theorem grow_k0 (w : World) (k : Nat) (os : Array Obj) : K0 w (Go.Sort.grow (w.drewN k) os) :=
  ⟨rfl, rfl, rfl, by show w.heap.size ≤ (w.heap ++ os).size; rw [Array.size_append]; omega, fun j hj _ => by show (w.heap ++ os)[j]? = _; rw [Array.getElem?_append_left hj]⟩
def I64 (x : Int) : Prop := -9223372036854775808 ≤ x ∧ x ≤ 9223372036854775807
theorem decI_size {x : Int} (h : I64 x) : (decI x).size ≤ 21 := by
  have := Lib.itoa_length_le x h.1 h.2
  show (Lib.itoa x).toArray.size ≤ 21
  simpa using this
theorem digits_any (x : Int) (w : World) (hT : GT w) (h : I64 x) :
    Calls Tryz.prog 46 #[.int .i64 x] w fun e w' => e = .returned (.string (decI x)) ∧ K0 w w' := by
  refine vc_digits x w _ ⟨(Tryz.strconv_Itoa x h.1 h.2 w hT).mono fun e w1 ⟨he, k, os, hw⟩ => ⟨_, he, ?_⟩⟩
  have k1 : K0 w w1 := by rw [hw]; exact grow_k0 w k os
  exact ⟨.of_k0 k1, rfl, k1⟩

def sumZ (l : List ByteArray) : Nat := (l.map ByteArray.size).sum
theorem sumZ_snoc (l : List ByteArray) (x : ByteArray) : sumZ (l ++ [x]) = sumZ l + x.size := by simp [sumZ]
theorem sumZ_cons (l : List ByteArray) (x : ByteArray) : sumZ (x :: l) = x.size + sumZ l := by simp [sumZ]
theorem sumZ_take : ∀ (l : List ByteArray) (i : Nat), sumZ (l.take i) ≤ sumZ l
  | [], i => by rw [List.take_nil]; exact Nat.le_refl _
  | x :: l, 0 => Nat.zero_le _
  | x :: l, i + 1 => by rw [List.take_succ_cons, sumZ_cons, sumZ_cons]; have := sumZ_take l i; omega
theorem foldT_size (c : UInt8) : ∀ (l : List ByteArray) (a : ByteArray), (l.foldl (fun a y => a ++ ⟨#[c]⟩ ++ y) a).size = a.size + l.length + sumZ l
  | [], a => by simp [sumZ]
  | x :: l, a => by
    rw [List.foldl_cons, foldT_size c l, ByteArray.size_append, ByteArray.size_append, size_one, sumZ_cons, List.length_cons]; omega
theorem joinT_size (c : UInt8) (l : List ByteArray) : (joinT c l).size ≤ l.length + sumZ l := by
  cases l with
  | nil => exact Nat.le_refl _
  | cons x r => show (r.foldl _ x).size ≤ _; rw [foldT_size, sumZ_cons, List.length_cons]; omega

theorem join_any (d : UInt8) (l : List ByteArray) (p : Option Addr) (c : Nat) (w : World) (hR : StrP w p l) (hl : l.length ≤ 1073741824) (hz : sumZ l ≤ 1073741824) (hc : l.length ≤ c) :
    Calls Tryz.prog 49 #[.slice p l.length c, .string ⟨#[d]⟩] w fun e w' => e = .returned (.string (joinT d l)) ∧ K0 w w' := by
  refine vc_join p l.length c ⟨#[d]⟩ w _ (bsp_intro (fun h0 => ?_) (fun h0 => bsp_intro (fun h1 => ?_) (fun h1 => bsp_intro (fun _ => ?_) (fun h => by rw [size_one] at h; simp at h))))
  · have h0 : l.length = 0 := by simp at h0; simp [h0]
    have : l = [] := List.eq_nil_of_length_eq_zero h0
    subst this
    exact ⟨rfl, .refl _ _⟩
  · have h1 : l.length = 1 := by simp at h1; omega
    match l, h1 with
    | [x], _ =>
      obtain ⟨z, b, o, hz', hp, hc'⟩ := str_get hR (k := 0) (by simp)
      simp at hz'; subst hz'
      exact nn_is hp ⟨⟨by omega, by show (0 : Int) < 1; omega⟩, x, by simpa using hc', rfl, .refl _ _⟩
  have h0 : ¬ l.length = 0 := by simp at h0; intro e; exact h0 (List.eq_nil_of_length_eq_zero e)
  have h1 : ¬ l.length = 1 := by simp at h1; omega
  have e1 : IntKind.i64.wrap ((l.length : Int) - 1) = ((l.length - 1 : Nat) : Int) := by rw [wr64 (by omega) (by omega)]; omega
  rw [e1]
  refine ⟨⟨rfl, by omega⟩, bsp_intro (fun h => ?_) (fun _ => ?_)⟩
  · exfalso
    rw [size_one] at h
    have hd : (1 : Int) < (9223372036854775807 : Int).tdiv ((l.length - 1 : Nat) : Int) := by
      rw [Int.tdiv_eq_ediv_of_nonneg (by omega)]
      have : (2 : Int) ≤ 9223372036854775807 / ((l.length - 1 : Nat) : Int) := by
        rw [Int.le_ediv_iff_mul_le (by omega)]; omega
      omega
    have hu : (9223372036854775807 : Int).tdiv ((l.length - 1 : Nat) : Int) ≤ 9223372036854775807 := by
      rw [Int.tdiv_eq_ediv_of_nonneg (by omega)]
      exact Int.ediv_le_self _ (by omega)
    rw [wr64 (by omega) hu] at h
    simp at h
    omega
  have e2 : IntKind.i64.wrap (0 + IntKind.i64.wrap (((⟨#[d]⟩ : ByteArray).size : Int) * ((l.length - 1 : Nat) : Int))) = ((l.length - 1 : Nat) : Int) := by
    rw [size_one, wr64 (x := ((1 : Nat) : Int) * _) (by omega) (by omega), wr64 (by omega) (by omega)]; omega
  rw [e2]
  refine ⟨fun vs w' => ∃ i : Nat, vs = [.int .i64 (i : Int), .int .i64 ((l.length - 1 + sumZ (l.take i) : Nat) : Int)] ∧ i ≤ l.length ∧ K0 w w',
    fun vs _ => (match vs with | .int _ x :: _ => l.length - x.toNat | _ => 0), ⟨0, by simp [sumZ], by omega, .refl _ _⟩, ?_⟩
  rintro x x1 w1 ⟨i, hv, hi, k1⟩
  simp only [List.cons.injEq, Value.int.injEq, true_and, and_true] at hv
  obtain ⟨rfl, rfl⟩ := hv
  have hst := sumZ_take l i
  refine bsp_intro (fun hlt => ?_) (fun hge => ?_)
  · have hlt : i < l.length := by simp at hlt; omega
    obtain ⟨z, b, o, hz', hp, hc'⟩ := str_get (hR.k0 k1) hlt
    have hs2 := sumZ_take l (i + 1)
    rw [take_snoc hz', sumZ_snoc] at hs2
    rw [Int.toNat_natCast]
    refine nn_is hp ⟨⟨by omega, by omega⟩, z, hc', bsp_intro (fun h => ?_) (fun _ => ⟨⟨i + 1, ?_, hlt, k1⟩, by rw [inc64 (by omega)]; simp only [Int.toNat_natCast]; omega⟩)⟩
    · exfalso
      rw [wr64 (by omega) (by omega)] at h
      simp at h
      omega
    · rw [inc64 (by omega), wr64 (x := ((l.length - 1 + sumZ (l.take i) : Nat) : Int) + (z.size : Int)) (by omega) (by omega), take_snoc hz', sumZ_snoc]
      simp
      omega
  intro n1 W hW
  have kW : K0 w W := k1.trans (hW.kk rfl)
  have gn : w.heap.size ≤ n1 := Nat.le_trans k1.size (hW.fresh 0 rfl rfl)
  have hbk : W.heap[n1]? = some (.cells #[.pointer none, .slice none 0 0] 109 (0, 0)) := hW.cells 0 rfl
  refine ⟨(Tryz.Builder_Grow_fresh n1 n1 _ W (Nat.le_refl _) hbk (Nat.le_of_lt (block_lt hbk)) (by omega)).mono fun e w2 ⟨he, h2, b2⟩ => ⟨he, ⟨b2.size, fun _ hm => by cases hm⟩, ?_⟩⟩
  have kb2 : Kp (fun k => n1 ≤ k) W w2 := ⟨b2.os, b2.tape, b2.output, b2.size, fun k _ hb => b2.block k (by omega)⟩
  have k2 : K0 w w2 := kW.fresh kb2 (fun j hj e => by omega)
  have hB2 : Bld n1 ⟨#[]⟩ w2 := .inr h2
  obtain ⟨x0, b, o, hx0, hp, hc0⟩ := str_get (hR.k0 k2) (k := 0) (by omega)
  have hs1 := sumZ_take l 1
  rw [take_snoc hx0, sumZ_snoc] at hs1
  refine nn_is hp ⟨⟨by omega, by omega⟩, x0, by simpa using hc0, ?_⟩
  have hx0z : x0.size ≤ 1073741824 := by omega
  refine ⟨(hB2.write x0 (by show 0 + _ ≤ _; omega)).mono fun e w3 ⟨he, hB3, kb3, _⟩ => ⟨_, _, he, ⟨kb3.size, fun _ hm => by cases hm⟩, ⟨by omega, by omega⟩, ?_⟩⟩
  have k3 : K0 w w3 := k2.fresh kb3 (fun j hj e => by omega)
  have e3 : (⟨#[]⟩ ++ x0 : ByteArray) = joinT d (l.take 1) := by
    rw [take_snoc hx0]; show (ByteArray.empty ++ x0) = x0; simp
  rw [e3] at hB3
  have e4 : ((l.length - Int.toNat 1 : Nat) : Int) = ((l.length - 1 : Nat) : Int) := rfl
  rw [e4]
  refine ⟨fun vs w' => ∃ i : Nat, vs = [.int .i64 (i : Int)] ∧ i + 1 ≤ l.length ∧ Bld n1 (joinT d (l.take (i + 1))) w' ∧ K0 w w',
    fun vs _ => (match vs with | .int _ x :: _ => l.length - x.toNat | _ => 0), ⟨0, rfl, by omega, hB3, k3⟩, ?_⟩
  rintro y w4 ⟨i, hv, hi4, hB4, k4⟩
  simp only [List.cons.injEq, Value.int.injEq, true_and, and_true] at hv
  subst hv
  have hjz := joinT_size d (l.take (i + 1))
  have hst4 := sumZ_take l (i + 1)
  have hlt4 : (l.take (i + 1)).length ≤ l.length := by rw [List.length_take]; omega
  refine bsp_intro (fun hlt => ?_) (fun hge => ?_)
  · have hlt : i + 1 < l.length := by simp at hlt; omega
    obtain ⟨z, b', o', hz', hp', hc'⟩ := str_get (hR.k0 k4) hlt
    have hs2 := sumZ_take l (i + 1 + 1)
    rw [take_snoc hz', sumZ_snoc] at hs2
    have hpp : slA p c 1 1 = some ⟨b', o' + 1, none⟩ := by
      rw [hp']
      unfold slA
      rw [if_neg (by omega)]
      rfl
    rw [Int.toNat_natCast]
    refine nn_is hpp ⟨⟨by omega, by omega⟩, z, by rw [show o' + 1 + i = o' + (i + 1) by omega]; exact hc', ?_⟩
    refine ⟨(hB4.write ⟨#[d]⟩ (by rw [size_one]; omega)).mono fun e w5 ⟨he, hB5, kb5, _⟩ => ⟨_, _, he, ⟨kb5.size, fun _ hm => by cases hm⟩, ?_⟩⟩
    refine ⟨(hB5.write z (by simp only [ByteArray.size_append, size_one]; omega)).mono fun e w6 ⟨he, hB6, kb6, _⟩ => ⟨_, _, he, ⟨kb6.size, fun _ hm => by cases hm⟩, ⟨i + 1, by rw [inc64 (by omega)], by omega, ?_, ?_⟩, by rw [inc64 (by omega)]; simp only [Int.toNat_natCast]; omega⟩⟩
    · rw [take_snoc hz', joinT_snoc d (by intro e; rcases List.take_eq_nil_iff.1 e with e | e; omega; exact h0 (by rw [e]; rfl))]
      exact hB6
    · exact (k4.fresh kb5 (fun j hj e => by omega)).fresh kb6 (fun j hj e => by omega)
  · have hi : i + 1 = l.length := by simp at hge; omega
    rw [hi, List.take_length] at hB4
    exact ⟨hB4.text.mono fun e w5 ⟨he, kb5⟩ => ⟨_, he, ⟨kb5.size, fun _ hm => by cases hm⟩, rfl, k4.fresh kb5 (fun j hj e => by omega)⟩⟩

/-! ### The reference -/
end Go.Proofs.YtgmmoghagpmpfaaGreatDoor

/- Chapter 27: operations on a table as they lie in the memory. No condition. -/
namespace Go.Proofs.YtgmmoghagpmpfaaGreatDoor
open Go.RowKit

/-- An operation on a table, and where its names lie. -/
structure OpY where
  k : Int
  gs : List ByteArray
  p : Option Addr
  c : Nat
  a : Int
instance : Inhabited OpY := ⟨⟨0, [], none, 0, 0⟩⟩
/-- What a reading of an operation gives. -/
structure OpR27 (W : World) (x : OpY) : Prop where
  str : StrP W x.p x.gs
  le : x.gs.length ≤ x.c
  hl : x.gs.length ≤ 4611686018427387904
  k : 0 ≤ x.k ∧ x.k ≤ 255
  a : -9223372036854775808 ≤ x.a ∧ x.a ≤ 9223372036854775807
theorem OpR27.k0 {w w' : World} {x : OpY} (h : OpR27 w x) (hk : K0 w w') : OpR27 w' x := ⟨h.str.k0 hk, h.le, h.hl, h.k, h.a⟩

end Go.Proofs.YtgmmoghagpmpfaaGreatDoor

/- Chapter 27: operations, numbers, texts as arguments, with their sizes. No condition. -/
namespace Go.Proofs.YtgmmoghagpmpfaaGreatDoor
open Go.ChangeShapes Go.WideShapes Go.ChangeAt Go.RowKit Go.Deep

theorem gw_of {w : World} (h : w.ShapedOpen Tryz.prog) : GW w := cell_of_shapedOpen_int (zero := #[.int .i64 0]) (t := 3) h (of_decide_eq_true (by kernel_rfl)) (by kernel_rfl) rfl (by kernel_rfl) (by kernel_rfl) Tryz.underlying3
theorem Rw.arr {H : Type} {enc : TypeId × Value → H} {P : Program} {W : World} {t : TypeId} {cs : List Value} {n : Nat} {e : TypeId} (h : Rw enc P W t cs) (ht : P.underlying t = some (.array n e)) {i : Nat} (hi : i < n) : Rw enc P W e ((cs.drop (i * P.cellsOf e)).take (P.cellsOf e)) := by
  obtain ⟨fuel, x, h, hw⟩ := h
  obtain ⟨xs, m, _, rfl, _, hxl, hg⟩ := DataW.trod_array ht h
  have hi' : i < xs.length := by omega
  refine ⟨m, xs[i], by rw [hg i hi, List.getElem?_eq_getElem hi'], fun k hk => hw k ?_⟩
  simp only [DataW.weights, ht]
  exact weightsAll_mem (List.mem_map.2 ⟨xs[i], List.getElem_mem hi', rfl⟩) k hk
section
variable {H : Type} {enc : TypeId × Value → H} {W : World} {base : Nat} {v : Value}
set_option maxRecDepth 100000 in
theorem openw_str (hv : Value.okWide Tryz.prog W .any base 9 v) (hr : Rw enc Tryz.prog W 9 v.cells.toList) : ∃ s : ByteArray, v = .string s ∧ s.size ≤ 4611686018427387904 := by
  obtain ⟨s, rfl⟩ := okWide_string Tryz.underlying9 hv
  obtain ⟨s', h, hz⟩ := hr.str Tryz.underlying9
  have h : [Value.string s] = [.string s'] := h
  simp only [List.cons.injEq, Value.string.injEq, and_true] at h
  subst h
  exact ⟨s, rfl, by omega⟩
end
theorem gt_of {l : List (String × DataW Unit)} {d : DataW Unit} {W : World} (h : laidMetH Tryz.prog l W) (hl : l.filter (fun x => x.1 == "internal/strconv.uint64pow10") = [("internal/strconv.uint64pow10", d)])
    (hd : d = Lib.tabData .u64 Lib.pow10Tab) : GT W := by
  have h1 := h.filter (fun x => x.1 == "internal/strconv.uint64pow10")
  rw [hl, hd] at h1
  have h2 := (laidMetH_iff.1 h1).1
  exact Lib.tabIs_of_head (rest := []) (g := 1) (t := 196) (e := 148) (n := 20) (by kernel_rfl) (by kernel_rfl) Tryz.underlying196 Tryz.underlying148 (by kernel_rfl) (by kernel_rfl) h2

end Go.Proofs.YtgmmoghagpmpfaaGreatDoor

/- delete of a map's entry, clear of a row's end, slices that are shorter. Generic: no program, no condition. -/
namespace Go.Proofs.YtgmmoghagpmpfaaGreatDoor
open Go.RowKit Go.Maps

section
variable {α : Type} {P : Program} {k t e : TypeId} {enc : α → Value} {w w1 : World} {b : Nat} {l : List (α × Value)}
variable [DecidableEq α]
variable (hinj : ∀ x y, enc x = enc y → x = y)
include hinj
end

/-! ### The end of a row is cleared -/
theorem putL_len : ∀ (vs c : List Value) (o : Nat), (putL c o vs).length = c.length
  | [], c, o => rfl
  | v :: r, c, o => by simp only [putL]; rw [putL_len r]; simp
end Go.Proofs.YtgmmoghagpmpfaaGreatDoor

/- Ranges over maps: an iterator's block, what is left, a step. Generic: no program, no condition. -/
namespace Go.Proofs.YtgmmoghagpmpfaaGreatDoor
open Go.RowKit Go.Maps

/-- How many entries are left. -/
def leftN (w : World) (r b : Nat) : Nat := match w.heap[r]?, w.heap[b]? with
  | some (.mapIter _ _ seen _), some (.map es _) => (leftOf es seen).size
  | _, _ => 0
/-- Block r holds an iterator over the map in block b; todo is left. -/
structure RngB {α : Type} (enc : α → Value) (w : World) (r b : Nat) (todo : List (α × Value)) : Prop where
  h : ∃ es clock since c0 seen, w.heap[b]? = some (.map es clock) ∧ w.heap[r]? = some (.mapIter (some b) since seen c0) ∧ (∀ x ∈ es.toList, x.born < since) ∧ since ≤ c0 ∧ since ≤ clock ∧ (es.toList.map (·.born)).Nodup ∧
    (leftOf es seen).toList.map (fun e => (e.key, e.val)) = todo.map (fun p => (enc p.1, p.2))
section
variable {α : Type} {P : Program} {k t e : TypeId} {enc : α → Value} {w w1 : World} {r b : Nat} {l todo : List (α × Value)}
theorem RngB.kp {M : Nat → Prop} {w' : World} (h : RngB enc w r b todo) (hk : Kp M w w') (hr : ¬ M r) (hb : ¬ M b) : RngB enc w' r b todo := by
  obtain ⟨es, cl, si, c0, se, h1, h2, h3⟩ := h.h
  exact ⟨es, cl, si, c0, se, hk.blk h1 hb, hk.blk h2 hr, h3⟩
theorem RngB.left (h : RngB enc w r b todo) : leftN w r b = todo.length := by
  obtain ⟨es, cl, si, c0, se, h1, h2, h3, h4, h5, h6, h7⟩ := h.h
  unfold leftN
  rw [h1, h2]
  have := congrArg List.length h7
  simpa using this
theorem MapB.range (h : MapB P k enc w b l) (ht : P.underlying t = some (.map k e)) : ∃ n w1, RngP P t (.map (some b)) n w w1 ∧ RngB enc w1 n b l ∧ K0 w w1 ∧ w.heap.size ≤ n ∧ n < w1.heap.size := by
  obtain ⟨es, c, hb, he⟩ := h.blk
  obtain ⟨h1, h2⟩ := h.brn es c hb
  have hk : K0 w (w.alloc (.mapIter (some b) c #[] c)) := ⟨rfl, rfl, rfl, by simp, fun i hi _ => Below.heap_alloc _ _ _ hi⟩
  refine ⟨w.heap.size, w.alloc (.mapIter (some b) c #[] c), ⟨run_range_map w t k e b es c ht hb⟩, ⟨es, c, c, c, #[], hk.blk hb (fun h => h), heap_alloc_new _ _, h2, Nat.le_refl _, Nat.le_refl _, h1, ?_⟩, hk, Nat.le_refl _, by simp⟩
  rw [← he]
  unfold leftOf
  rw [Array.filter_eq_self.2 (fun x _ => by simp)]
theorem left_erase {L : List MapEntry} (hn : (L.map (·.born)).Nodup) {j : Nat} {x : MapEntry} (hj : L[j]? = some x) : L.filter (fun y => !(y.born == x.born)) = L.eraseIdx j := by
  induction L generalizing j with
  | nil => simp at hj
  | cons y r ih =>
    have hn' : y.born ∉ r.map (·.born) ∧ (r.map (·.born)).Nodup := List.nodup_cons.1 hn
    cases j with
    | zero =>
      have e : y = x := by simpa using hj
      subst e
      rw [List.filter_cons, if_neg (by simp), List.eraseIdx_cons_zero]
      refine List.filter_eq_self.2 fun z hz => ?_
      have : z.born ≠ y.born := fun e => hn'.1 (by rw [← e]; exact List.mem_map.2 ⟨z, hz, rfl⟩)
      simpa using this
    | succ j =>
      have hj' : r[j]? = some x := by simpa using hj
      have : y.born ≠ x.born := fun e => hn'.1 (by rw [e]; exact List.mem_map.2 ⟨x, List.mem_of_getElem? hj', rfl⟩)
      rw [List.filter_cons, if_pos (by simpa using this), List.eraseIdx_cons_succ, ih hn'.2 hj']
theorem map_erase' {β γ : Type} (f : β → γ) : ∀ (L : List β) (j : Nat), (L.eraseIdx j).map f = (L.map f).eraseIdx j
  | [], _ => by simp
  | _ :: _, 0 => rfl
  | x :: L, j + 1 => by simp [List.eraseIdx_cons_succ, map_erase' f L j]
theorem sb_same {w : World} {r : Nat} {x : Obj} (h : w.heap[r]? = some x) (o : Obj) : (ChangeMaps.setBlock w r o).heap[r]? = some o := by
  have hlt : r < w.heap.size := by
    rcases Nat.lt_or_ge r w.heap.size with h' | h'
    · exact h'
    · rw [Array.getElem?_eq_none h'] at h; cases h
  simp [ChangeMaps.setBlock, hlt]
theorem sb_other (w : World) (r : Nat) (o : Obj) {i : Nat} (h : i ≠ r) : (ChangeMaps.setBlock w r o).heap[i]? = w.heap[i]? := by
  simp [ChangeMaps.setBlock, Ne.symm h]
/-- A step. -/
theorem RngB.next (h : RngB enc w r b todo) :
    (todo = [] ∧ NxtP P (.pointer (some ⟨r, 0, none⟩)) false [] w w) ∨
    ∃ (j : Nat) (p : α × Value) (w1 : World), todo[j]? = some p ∧ NxtP P (.pointer (some ⟨r, 0, none⟩)) true [enc p.1, p.2] w w1 ∧ EntP P (.pointer (some ⟨r, 0, none⟩)) (.tuple #[enc p.1, p.2]) w1 ∧ RngB enc w1 r b (todo.eraseIdx j) ∧ Kp (· = r) w w1 := by
  obtain ⟨es, cl, si, c0, se, h1, h2, h3, h4, h5, h6, h7⟩ := h.h
  have hlen := congrArg List.length h7
  simp only [List.length_map] at hlen
  rcases run_next_at (P := P) w 0 r b si c0 se es cl h2 h1 h3 h4 with ⟨h8, _⟩ | ⟨x, hx, w1, hw1, hrun⟩
  · refine .inl ⟨List.eq_nil_of_length_eq_zero (by rw [← hlen]; simpa using h8), ⟨fun ty => ?_⟩⟩
    rcases run_next_at (P := P) w ty r b si c0 se es cl h2 h1 h3 h4 with ⟨_, h9⟩ | ⟨x, hx, _⟩
    · exact h9
    · have : leftOf es se = #[] := Array.eq_empty_of_size_eq_zero h8
      rw [this] at hx; simp at hx
  · obtain ⟨j, hj, hjx⟩ := List.getElem_of_mem hx
    have hjx' : (leftOf es se).toList[j]? = some x := by rw [List.getElem?_eq_getElem hj, hjx]
    have hp : (todo.map (fun p => (enc p.1, p.2)))[j]? = some (x.key, x.val) := by rw [← h7, List.getElem?_map, hjx']; rfl
    rw [List.getElem?_map, Option.map_eq_some_iff] at hp
    obtain ⟨p, hp, hpe⟩ := hp
    simp only [Prod.mk.injEq] at hpe
    have hkw : Kp (· = r) w (ChangeMaps.setBlock w1 r (.mapIter (some b) si (se.push x.born) cl)) := by
      have hw : Kp (· = r) w w1 := by
        rcases hw1 with rfl | rfl
        · exact .refl _ _
        · exact ⟨rfl, rfl, rfl, Nat.le_refl _, fun _ _ _ => rfl⟩
      have hr1 : w1.heap[r]? = some (.mapIter (some b) si se c0) := by rcases hw1 with rfl | rfl <;> exact h2
      exact hw.trans ⟨rfl, rfl, rfl, by simp [ChangeMaps.setBlock], fun i _ hi => sb_other _ _ _ hi⟩
    have hrb : b ≠ r := fun e => by rw [e, h2] at h1; cases h1
    have hr1 : w1.heap[r]? = some (.mapIter (some b) si se c0) := by rcases hw1 with rfl | rfl <;> exact h2
    have hb1 := hkw.blk h1 hrb
    have hr2 : (ChangeMaps.setBlock w1 r (.mapIter (some b) si (se.push x.born) cl)).heap[r]? = some (.mapIter (some b) si (se.push x.born) cl) := sb_same hr1 _
    refine .inr ⟨j, p, _, hp, ⟨fun ty => ?_⟩, ⟨?_⟩, ⟨es, cl, si, cl, se.push x.born, hb1, hr2, h3, h5, h5, h6, ?_⟩, hkw⟩
    · rw [hpe.1, hpe.2]; exact hrun
    · rw [hpe.1, hpe.2]; exact run_entry_at _ r b si se es cl x hr2 hb1 (mem_left hx).1 h6
    · rw [map_erase', ← h7, ← map_erase']
      congr 1
      have hL : ((leftOf es se).toList.map (·.born)).Nodup := by
        unfold leftOf
        rw [Array.toList_filter]
        exact h6.sublist (List.filter_sublist.map _)
      rw [← left_erase hL hjx']
      unfold leftOf
      rw [Array.toList_filter, Array.toList_filter, List.filter_filter]
      refine List.filter_congr fun y _ => ?_
      rw [contains_push]
      cases se.contains y.born <;> simp
end

end Go.Proofs.YtgmmoghagpmpfaaGreatDoor

/- Chapter 27: the module's table in the memory: looked up, written. Names are not too long. -/
namespace Go.Proofs.YtgmmoghagpmpfaaGreatDoor
open Go.RowKit Go.Maps Go.Sort

/-- A group and where its row lies. -/
structure Gx where
  v : Gv
  p : Option Addr
  c : Nat
abbrev gxV (x : Gx) : Value := .agg #[.int .i64 x.v.h, .bool x.v.c, .slice x.p x.v.l.length x.c]
def ivC (x : Iv) : List Value := [.int .i64 x.a, .int .i64 x.b]
theorem ivC_length (x : Iv) : (ivC x).length = 2 := rfl
abbrev TM := List (ByteArray × Gx)
def Gx.blk (x : Gx) : Option Nat := (Value.slice x.p x.v.l.length x.c).ownBlock
/-- The row of a group is the program's own. -/
def Gx.own (w : World) (B : Nat) (x : Gx) : Prop := w.ownsRow B 105 2 (.slice x.p x.v.l.length x.c) x.v.l.length (x.v.l.flatMap ivC)
def gxz : Gx := ⟨⟨0, false, []⟩, none, 0⟩
theorem Gx.own_z (w : World) (B : Nat) (h : Int) (c : Bool) : Gx.own w B ⟨⟨h, c, []⟩, none, 0⟩ := World.ownsRow_nil _ _ _ _
theorem Gx.own.kp {w w' : World} {B : Nat} {x : Gx} {M : Nat → Prop} (h : x.own w B) (hk : Kp M w w') (hm : ∀ k, x.blk = some k → ¬ M k) : x.own w' B := owns_kp h hk hm
theorem Gx.own.ty {w : World} {B : Nat} {x : Gx} (h : x.own w B) {k : Nat} (hk : x.blk = some k) : ∃ c, w.heap[k]? = some (.cells c 105 (0, 0)) := own_type h hk
theorem Gx.own.row {w : World} {B : Nat} {x : Gx} (h : x.own w B) : RowA ivC 2 w x.p x.v.l := RowA.own h ivC_length (by decide)
theorem stInj27 (x y : ByteArray) (h : Value.string x = Value.string y) : x = y := by cases h; rfl
theorem stKeyed27 : Keyed Tryz.prog 9 := string_keyed Tryz.underlying9
theorem stKey27 {s : ByteArray} (h : s.size ≤ 1073741824) : ∃ kl, keyOf Tryz.prog 9 (.string s) = some kl := ⟨_, WideMaps.keyOf_string_mk Tryz.underlying9 (by unfold maxLen; omega)⟩
theorem zeroGr (w : World) : (zeroValue 94).run Tryz.prog w = .ok (gxV gxz) w := by kernel_rfl
theorem dis_amap {α β γ : Type} {f : β → γ} {l : List (α × β)} : ((amap f l).Pairwise fun p q => p.1 ≠ q.1) ↔ l.Pairwise fun p q => p.1 ≠ q.1 := by
  unfold amap
  rw [List.pairwise_map]
/-- The blocks of a table that operations write. -/
def Tb (mb : Nat) (m : TM) (k : Nat) : Prop := k = mb ∨ ∃ g x, aget m g = some x ∧ x.blk = some k
/-- A table in block b, its map in block mb; the group g may be astray. -/
structure Tz (w : World) (B b mb : Nat) (m : TM) (E : ByteArray → Prop) : Prop where
  st : w.heap[b]? = some (.cells #[.map (some mb)] 99 (0, 0))
  mm : MapB Tryz.prog 9 Value.string w mb (amap gxV m)
  own : ∀ g x, aget m g = some x → ¬ E g → x.own w B
  sep : ∀ g x h y k, aget m g = some x → aget m h = some y → x.blk = some k → y.blk = some k → g = h
  nm : ∀ g x k, aget m g = some x → x.blk = some k → k ≠ mb ∧ k ≠ b ∧ B ≤ k ∧ k < w.heap.size
  gb : B ≤ b
  gm : B ≤ mb
  gz : 0 < B
structure Tq (w : World) (B b mb : Nat) (m : TM) (A : TA) : Prop where
  z : Tz w B b mb m (fun _ => False)
  prm : (amap Gx.v m).Perm A
  wf : WF A
  len : A.length ≤ 4096
section
variable {w w' : World} {B b mb : Nat} {m : TM} {A : TA} {E : ByteArray → Prop}
theorem Tz.dis (h : Tz w B b mb m E) : m.Pairwise fun p q => p.1 ≠ q.1 := dis_amap.1 h.mm.dis
theorem Tz.bm (h : Tz w B b mb m E) : b ≠ mb := fun e => by
  obtain ⟨es, c, hb, _⟩ := h.mm.blk
  have := h.st
  rw [e, hb] at this; cases this
theorem Tz.tb (h : Tz w B b mb m E) {k : Nat} (hk : Tb mb m k) : B ≤ k ∧ k < w.heap.size ∧ k ≠ b := by
  rcases hk with rfl | ⟨g, x, hx, hk⟩
  · exact ⟨h.gm, h.mm.lt, fun e => h.bm e.symm⟩
  · obtain ⟨_, h2, h3, h4⟩ := h.nm g x k hx hk
    exact ⟨h3, h4, h2⟩
theorem Tz.kp {M : Nat → Prop} (h : Tz w B b mb m E) (hk : Kp M w w') (hb : ¬ M b) (hm : ∀ k, Tb mb m k → ¬ M k) : Tz w' B b mb m E :=
  ⟨hk.blk h.st hb, h.mm.kp hk (hm mb (.inl rfl)), fun g x hx hE => (h.own g x hx hE).kp hk (fun k e => hm k (.inr ⟨g, x, hx, e⟩)), h.sep, fun g x k hx e => by
    obtain ⟨h1, h2, h3, h4⟩ := h.nm g x k hx e
    have := hk.size
    exact ⟨h1, h2, h3, by omega⟩, h.gb, h.gm, h.gz⟩
theorem Tz.k0 (h : Tz w B b mb m E) (hk : K0 w w') : Tz w' B b mb m E := h.kp hk (fun h => h) (fun _ _ h => h)
/-- The row of the group g is written, or a new one is made. -/
theorem Tz.kpx {M : Nat → Prop} (h : Tz w B b mb m E) (hk : Kp M w w') (hb : ¬ M b) (hm : ¬ M mb) {g0 : ByteArray} (hr : ∀ g x k, aget m g = some x → g ≠ g0 → x.blk = some k → ¬ M k) : Tz w' B b mb m (fun g => E g ∨ g = g0) :=
  ⟨hk.blk h.st hb, h.mm.kp hk hm, fun g x hx hE => (h.own g x hx (fun e => hE (.inl e))).kp hk (fun k e => hr g x k hx (fun e => hE (.inr e)) e), h.sep, fun g x k hx e => by
    obtain ⟨h1, h2, h3, h4⟩ := h.nm g x k hx e
    have := hk.size
    exact ⟨h1, h2, h3, by omega⟩, h.gb, h.gm, h.gz⟩
theorem Tz.cM (h : Tz w B b mb m E) : w.cell? ⟨b, 0, none⟩ = some (.map (some mb)) := cell_at h.st rfl
theorem Tz.look1 (h : Tz w B b mb m E) {g : ByteArray} (hg : g.size ≤ 1073741824) : LookP Tryz.prog 97 (.map (some mb)) (.string g) true (.tuple #[gxV ((aget m g).getD gxz), .bool (aget m g).isSome]) w := by
  obtain ⟨kl, hkl⟩ := stKey27 hg
  have := MapB.look stInj27 h.mm stKeyed27 Tryz.underlying97 (zeroGr w) hkl true
  rw [aget_amap] at this
  cases hgt : aget m g with
  | none => rw [hgt] at this; exact this
  | some x => rw [hgt] at this; exact this
theorem Tz.look0 (h : Tz w B b mb m E) {g : ByteArray} (hg : g.size ≤ 1073741824) : LookP Tryz.prog 97 (.map (some mb)) (.string g) false (gxV ((aget m g).getD gxz)) w := by
  obtain ⟨kl, hkl⟩ := stKey27 hg
  have := MapB.look stInj27 h.mm stKeyed27 Tryz.underlying97 (zeroGr w) hkl false
  rw [aget_amap] at this
  cases hgt : aget m g with
  | none => rw [hgt] at this; exact this
  | some x => rw [hgt] at this; exact this
/-- A group is written: its row is the program's own and lies apart. -/
theorem Tz.upd {g : ByteArray} (h : Tz w B b mb m (fun z => z = g)) (x : Gx) (hg : g.size ≤ 1073741824) (ho : x.own w B) (hb : ∀ k, x.blk = some k → k ≠ mb ∧ k ≠ b ∧ k < w.heap.size) (hs : ∀ g' y k, aget m g' = some y → g' ≠ g → x.blk = some k → ¬ y.blk = some k) :
    ∃ w1, UpdP Tryz.prog 97 (.map (some mb)) (.string g) (gxV x) w w1 ∧ Tz w1 B b mb (aset m g x) (fun _ => False) ∧ Kp (· = mb) w w1 := by
  obtain ⟨kl, hkl⟩ := stKey27 hg
  obtain ⟨w1, hu, hm, hk⟩ := MapB.upd stInj27 h.mm stKeyed27 Tryz.underlying97 hkl (gxV x)
  rw [aset_amap] at hm
  refine ⟨w1, hu, ⟨hk.blk h.st h.bm, hm, fun g' y hy _ => ?_, fun g1 x1 g2 x2 k h1 h2 e1 e2 => ?_, fun g' y k hy e => ?_, h.gb, h.gm, h.gz⟩, hk⟩
  · rw [aget_aset] at hy
    split at hy
    · cases hy; exact ho.kp hk (fun k e e2 => (hb k e).1 e2)
    · rename_i hne
      exact (h.own g' y hy (fun e => hne e.symm)).kp hk (fun k e e2 => (h.nm g' y k hy e).1 e2)
  · rw [aget_aset] at h1 h2
    split at h1 <;> split at h2
    · rename_i a1 a2; rw [← a1, ← a2]
    · rename_i a1 a2
      cases h1
      exact absurd e2 (hs g2 x2 k h2 (fun e => a2 e.symm) e1)
    · rename_i a1 a2
      cases h2
      exact absurd e1 (hs g1 x1 k h1 (fun e => a1 e.symm) e2)
    · exact h.sep g1 x1 g2 x2 k h1 h2 e1 e2
  · rw [aget_aset] at hy
    have := hk.size
    split at hy
    · cases hy
      obtain ⟨b1, b2, b3⟩ := hb k e
      exact ⟨b1, b2, own_ge ho e, by omega⟩
    · obtain ⟨b1, b2, b3, b4⟩ := h.nm g' y k hy e
      exact ⟨b1, b2, b3, by omega⟩
theorem Tz.weak {E' : ByteArray → Prop} (h : Tz w B b mb m E) (he : ∀ g, E g → E' g) : Tz w B b mb m E' := ⟨h.st, h.mm, fun g x hx hE => h.own g x hx (fun e => hE (he g e)), h.sep, h.nm, h.gb, h.gm, h.gz⟩
theorem Tq.k0 (h : Tq w B b mb m A) (hk : K0 w w') : Tq w' B b mb m A := ⟨h.z.k0 hk, h.prm, h.wf, h.len⟩
theorem Tq.kp {M : Nat → Prop} (h : Tq w B b mb m A) (hk : Kp M w w') (hb : ¬ M b) (hm : ∀ k, Tb mb m k → ¬ M k) : Tq w' B b mb m A := ⟨h.z.kp hk hb hm, h.prm, h.wf, h.len⟩
/-- What the table says of a name. -/
theorem Tq.get (h : Tq w B b mb m A) (g : ByteArray) : aget A g = (aget m g).map Gx.v := by
  rw [← aget_amap Gx.v m g, aget_perm h.prm (dis_amap.2 h.z.dis)]
theorem Tq.getN (h : Tq w B b mb m A) {g : ByteArray} (hg : aget m g = none) : aget A g = none := by rw [h.get, hg]; rfl
theorem Tq.getS (h : Tq w B b mb m A) {g : ByteArray} {x : Gx} (hg : aget m g = some x) : aget A g = some x.v := by rw [h.get, hg]; rfl
theorem Tq.length (h : Tq w B b mb m A) : m.length = A.length := by rw [← h.prm.length_eq]; simp [amap]
/-- The table behind an operation. -/
structure Ts (w w' : World) (B b mb : Nat) (m : TM) (A' : TA) (m' : TM) : Prop where
  t : Tq w' B b mb m' A'
  k : Kp (Tb mb m) w w'
  f : ∀ k, Tb mb m' k → Tb mb m k ∨ w.heap.size ≤ k
theorem Tq.same (h : Tq w B b mb m A) (hk : K0 w w') : Ts w w' B b mb m A m := ⟨h.k0 hk, hk.mono fun _ _ e => e.elim, fun _ hk => .inl hk⟩
theorem aset_perm27 {x : Gx} {g : ByteArray} (h : Tq w B b mb m A) : (amap Gx.v (aset m g x)).Perm (aset A g x.v) := by
  rw [← aset_amap]
  exact aset_perm h.prm (dis_amap.2 h.z.dis) g x.v
theorem ins_perm27 {x : Gx} {g : ByteArray} (h : Tq w B b mb m A) (hg : aget m g = none) : (amap Gx.v (aset m g x)).Perm (insA gnC A g x.v) := by
  rw [← aset_amap]
  exact ins_perm h.prm (by rw [aget_amap, hg]; rfl)
theorem aset_same_len {β : Type} {l : List (ByteArray × β)} {g : ByteArray} {u v : β} (h : aget l g = some u) : (aset l g v).length = l.length := by
  induction l with
  | nil => cases h
  | cons p r ih =>
    obtain ⟨a, y⟩ := p
    unfold aget at h
    unfold aset
    split
    · rfl
    · rename_i hne
      rw [if_neg hne] at h
      simp [ih h]
/-- A group is written whose row is the one that it had (perhaps written meanwhile), or a new one. -/
theorem Tz.put {w0 w : World} (h : Tz w0 B b mb m (fun _ => False)) {g : ByteArray} {x : Gx} (O : Option Nat) (hO : ∀ k, O = some k → ∃ x0, aget m g = some x0 ∧ x0.blk = some k) (hk : Kp (fun k => O = some k) w0 w) (hg : g.size ≤ 1073741824) (ho : x.own w B)
    (hn : ∀ k, x.blk = some k → O = some k ∨ w0.heap.size ≤ k) :
    ∃ w1, UpdP Tryz.prog 97 (.map (some mb)) (.string g) (gxV x) w w1 ∧ Tz w1 B b mb (aset m g x) (fun _ => False) ∧ Kp (Tb mb m) w0 w1 ∧ (∀ k, Tb mb (aset m g x) k → Tb mb m k ∨ w0.heap.size ≤ k) ∧ Kp (· = mb) w w1 := by
  have hO2 : ∀ k, O = some k → Tb mb m k := fun k e => by obtain ⟨x0, h1, h2⟩ := hO k e; exact .inr ⟨g, x0, h1, h2⟩
  have hOn : ∀ k, O = some k → k ≠ mb ∧ k ≠ b ∧ k < w0.heap.size := fun k e => by
    obtain ⟨x0, h1, h2⟩ := hO k e
    obtain ⟨a1, a2, a3, a4⟩ := h.nm g x0 k h1 h2
    exact ⟨a1, a2, a4⟩
  have bb := block_lt h.st
  have bm := h.mm.lt
  have hz : Tz w B b mb m (fun z => z = g) := (h.kpx hk (fun e => (hOn b e).2.1 rfl) (fun e => (hOn mb e).1 rfl) (g0 := g) (fun g' y k hy hne e e2 => by
    obtain ⟨x0, h1, h2⟩ := hO k e2
    exact hne (h.sep g' y g x0 k hy h1 e h2))).weak (fun z e => by rcases e with e | e; exact e.elim; exact e)
  obtain ⟨w1, hu, h1, k1⟩ := hz.upd x hg ho (fun k e => by
    have hl := own_lt ho e
    rcases hn k e with e2 | e2
    · obtain ⟨a1, a2, _⟩ := hOn k e2
      exact ⟨a1, a2, hl⟩
    · exact ⟨by omega, by omega, hl⟩) (fun g' y k hy hne e e2 => by
    rcases hn k e with e3 | e3
    · obtain ⟨x0, h1, h2⟩ := hO k e3
      exact hne (h.sep g' y g x0 k hy h1 e2 h2)
    · have := (h.nm g' y k hy e2).2.2.2
      omega)
  refine ⟨w1, hu, h1, (hk.mono fun k _ e => hO2 k e).trans (k1.mono fun k _ e => .inl e), fun k hk => ?_, k1⟩
  rcases hk with e | ⟨g', y, hy, e⟩
  · exact .inl (.inl e)
  · rw [aget_aset] at hy
    split at hy
    · cases hy
      rcases hn k e with e3 | e3
      · exact .inl (hO2 k e3)
      · exact .inr e3
    · exact .inl (.inr ⟨g', y, hy, e⟩)
theorem Ts.put {w0 w : World} (h : Tq w0 B b mb m A) {g : ByteArray} {x0 x : Gx} (hx : aget m g = some x0) (hk : Kp (fun k => x0.blk = some k) w0 w) (hg : g.size ≤ 1073741824) (ho : x.own w B)
    (hn : ∀ k, x.blk = some k → x0.blk = some k ∨ w0.heap.size ≤ k) (hA : WF (aset A g x.v)) :
    ∃ w1, UpdP Tryz.prog 97 (.map (some mb)) (.string g) (gxV x) w w1 ∧ Ts w0 w1 B b mb m (aset A g x.v) (aset m g x) ∧ Kp (· = mb) w w1 := by
  obtain ⟨w1, hu, h1, k1, hf, k2⟩ := h.z.put (g := g) (x := x) x0.blk (fun k e => ⟨x0, hx, e⟩) hk hg ho hn
  exact ⟨w1, hu, ⟨⟨h1, aset_perm27 h, hA, by rw [aset_same_len (h.getS hx)]; exact h.len⟩, k1, hf⟩, k2⟩
theorem Ts.ins {w0 w : World} (h : Tq w0 B b mb m A) {g : ByteArray} {x : Gx} (hx : aget m g = none) (hk : K0 w0 w) (hg : g.size ≤ 1073741824) (ho : x.own w B)
    (hn : ∀ k, x.blk = some k → w0.heap.size ≤ k) (hA : WF (insA gnC A g x.v)) (hl : A.length < 4096) :
    ∃ w1, UpdP Tryz.prog 97 (.map (some mb)) (.string g) (gxV x) w w1 ∧ Ts w0 w1 B b mb m (insA gnC A g x.v) (aset m g x) ∧ Kp (· = mb) w w1 := by
  obtain ⟨w1, hu, h1, k1, hf, k2⟩ := h.z.put (g := g) (x := x) none (fun k e => by cases e) (hk.mono fun _ _ e => e.elim) hg ho (fun k e => .inr (hn k e))
  refine ⟨w1, hu, ⟨⟨h1, ins_perm27 h hx, hA, ?_⟩, k1, hf⟩, k2⟩
  rw [(insA_perm A g x.v).length_eq]
  simp
  omega
/-- Blocks of the function's own are kept where the map is written. -/
theorem Tz.keptL {w0 W w2 : World} (h : Tz w0 B b mb m E) (hk : Kp (· = mb) W w2) {ns : List Nat} (hn : ∀ n ∈ ns, w0.heap.size ≤ n) : KeptL ns W w2 := .of_kp hk fun n hin e => by
  have := h.mm.lt
  have := hn n hin
  omega
/-- Two steps. -/
theorem Ts.trans {w1 w2 : World} {m1 m2 : TM} {A1 A2 : TA} (h : Ts w w1 B b mb m A1 m1) (k : Ts w1 w2 B b mb m1 A2 m2) : Ts w w2 B b mb m A2 m2 := by
  refine ⟨k.t, h.k.fresh k.k (fun i hi e => ?_), fun i hi => ?_⟩
  · rcases h.f i e with e | e
    · exact e
    · omega
  · have := h.k.size
    rcases k.f i hi with e | e
    · exact h.f i e
    · exact .inr (by omega)
/-- Blocks of the function's own are written behind it. -/
theorem Ts.kpf {w1 w2 : World} {m1 : TM} {A1 : TA} {M : Nat → Prop} (h : Ts w w1 B b mb m A1 m1) (hk : Kp M w1 w2) (hM : ∀ k, M k → w.heap.size ≤ k) (hb : ¬ M b) (hm : ∀ k, Tb mb m1 k → ¬ M k) : Ts w w2 B b mb m A1 m1 :=
  ⟨h.t.kp hk hb hm, h.k.fresh hk (fun i hi e => by have := hM i e; omega), h.f⟩
theorem Ts.k0 {w1 w2 : World} {m1 : TM} {A1 : TA} (h : Ts w w1 B b mb m A1 m1) (hk : K0 w1 w2) : Ts w w2 B b mb m A1 m1 := h.kpf hk (fun _ e => e.elim) (fun h => h) (fun _ _ h => h)
/-- Before the table was made, nothing is written. -/
theorem Ts.base {w0 w : World} {m1 : TM} {A1 : TA} (h : Ts w w' B b mb m A1 m1) (hz : Tz w B b mb m E) (k : K0 w0 w) (hB : w0.heap.size ≤ B) : K0 w0 w' := k.fresh h.k (fun i hi e => by have := (hz.tb e).1; omega)
end

end Go.Proofs.YtgmmoghagpmpfaaGreatDoor
