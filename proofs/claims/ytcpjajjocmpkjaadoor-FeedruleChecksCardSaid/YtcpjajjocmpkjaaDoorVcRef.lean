/- The formulas of functions by the symbolic evaluator, and that each gives the call's contract. Written by a program (gen.py). No condition. -/
import Derived.Test.YtcpjajjocmpkjaaDoorProg
import Derived.Test.YtcpjajjocmpkjaaDoorSound
import Derived.Test.YtcpjajjocmpkjaaDoorPur1
import Derived.KernelRfl
namespace Go.Proofs.YtcpjajjocmpkjaaDoor
set_option maxRecDepth 100000
set_option linter.unusedVariables false

def VC_has (p : Option Addr) (n : Nat) (c : Nat) (s : ByteArray) (w : World) (R : Ending → World → Prop) : Prop :=
 ∃ (I : List Value → World → Prop),
 ∃ (m : List Value → World → Nat),
 I [Value.int IntKind.i64 0] w ∧
 ∀ (x : Int) (w' : World),
 I [Value.int IntKind.i64 x] w' →
 bsp (decide (x < (↑n : Int)))
 (nn true p fun (b o : Nat) =>
 (0 ≤ x ∧ x < (↑n : Int)) ∧
 ∃ (x_1 : ByteArray),
 w'.cell? (Addr.mk b (o + x.toNat) none) = some (Value.string x_1) ∧
 bsp (x_1.toList == s.toList) (R (Ending.returned (Value.bool true)) w')
 (I [Value.int IntKind.i64 (IntKind.i64.wrap (x + 1))] w' ∧
 m [Value.int IntKind.i64 (IntKind.i64.wrap (x + 1))] w' < m [Value.int IntKind.i64 x] w'))
 (R (Ending.returned (Value.bool false)) w')
theorem vc_has (p : Option Addr) (n : Nat) (c : Nat) (s : ByteArray) (w : World) (R : Ending → World → Prop) (h : VC_has p n c s w R) : Calls Tryd.prog 35 ([Value.slice
    p n c,
  Value.string s] : List Value).toArray w R := by
  have e : execR { P := Tryd.prog, loops := [(2, [(5, Ck.int IntKind.i64)])], pur := pur1, tails := [], joins := [], boxes := [] } Tryd.f35.results.toList R (Tryd.f35.body.getD .skip) (initF [Value.slice
    p n c,
  Value.string
    s] (Tryd.f35.ntmps - ([Value.slice p n c,
  Value.string s] : List Value).length)) w = VC_has p n c s w R := by kernel_rfl
  have hb : Tryd.f35.body = some (Tryd.f35.body.getD .skip) := by kernel_rfl
  exact calls_of_exec' (P := Tryd.prog) (fn := Tryd.f35) (c := Tryd.f35.body.getD .skip) (args := [Value.slice p n c,
  Value.string s]) (w := w) (R := R) pur1_ok Tryd.func35 hb e h

def VC_rcheck (nb : ByteArray) (ps : ByteArray) (mb : Int) (dl : Int) (p : Option Addr) (n : Nat) (c : Nat) (w : World) (R : Ending → World → Prop) : Prop :=
 ∀ (n_1 : Nat) (w1 : World),
 NewB w
 (Obj.cells #[Value.string nb, Value.string ps, Value.int IntKind.i64 mb, Value.int IntKind.i64 dl, Value.slice p n c]
 24)
 n_1 w1 →
 ∃ (x : ByteArray),
 w1.cell? (Addr.mk n_1 0 none) = some (Value.string x) ∧
 CallsS Tryd.prog 32 #[Value.string x] w1 fun (e : Ending) (w' : World) =>
 ∃ (x : Int),
 ∃ (x_1 : Int),
 e = Ending.returned (Value.tuple #[Value.int IntKind.i64 x, Value.int IntKind.i64 x_1]) ∧
 bsp (x_1 != 0) (R (Ending.returned (Value.int IntKind.i64 x_1)) w')
 (∃ (x : ByteArray),
 w'.cell? (Addr.mk n_1 (0 + 1) none) = some (Value.string x) ∧
 CallsS Tryd.prog 33 #[Value.string x] w' fun (e : Ending) (w' : World) =>
 ∃ (p : Option Addr),
 ∃ (n : Nat),
 ∃ (c : Nat),
 ∃ (x : Int),
 ∃ (x_2 : Int),
 e =
 Ending.returned
 (Value.tuple #[Value.slice p n c, Value.int IntKind.i64 x, Value.int IntKind.i64 x_2]) ∧
 bsp (x_2 != 0) (R (Ending.returned (Value.int IntKind.i64 x_2)) w')
 (∃ (x : Int),
 w'.cell? (Addr.mk n_1 (0 + 2) none) = some (Value.int IntKind.i64 x) ∧
 ∃ (x_3 : Int),
 gimp (!decide (x < 0)) (w'.cell? (Addr.mk n_1 (0 + 2) none) = some (Value.int IntKind.i64 x_3)) ∧
 ∃ (x_4 : Int),
 gimp (!(decide (x < 0) || decide (x_3 > 65536)))
 (w'.cell? (Addr.mk n_1 (0 + 3) none) = some (Value.int IntKind.i64 x_4)) ∧
 ∃ (x_5 : Int),
 gimp (!(decide (x < 0) || decide (x_3 > 65536) || decide (x_4 < 0)))
 (w'.cell? (Addr.mk n_1 (0 + 3) none) = some (Value.int IntKind.i64 x_5)) ∧
 bsp (decide (x < 0) || decide (x_3 > 65536) || decide (x_4 < 0) || decide (x_5 > 20160))
 (R (Ending.returned (Value.int IntKind.i64 2)) w')
 (∃ (p : Option Addr),
 ∃ (n : Nat),
 ∃ (c : Nat),
 w'.cell? (Addr.mk n_1 (0 + 4) none) = some (Value.slice p n c) ∧
 bsp (decide ((↑n : Int) > 8)) (R (Ending.returned (Value.int IntKind.i64 9)) w')
 (∃ (I : List Value → World → Prop),
 ∃ (m : List Value → World → Nat),
 I [Value.int IntKind.i64 0] w' ∧
 ∀ (x : Int) (w' : World),
 I [Value.int IntKind.i64 x] w' →
 ∃ (p : Option Addr),
 ∃ (n : Nat),
 ∃ (c : Nat),
 w'.cell? (Addr.mk n_1 (0 + 4) none) = some (Value.slice p n c) ∧
 bsp (decide (x < (↑n : Int)))
 (∃ (p : Option Addr),
 ∃ (n : Nat),
 ∃ (c : Nat),
 w'.cell? (Addr.mk n_1 (0 + 4) none) = some (Value.slice p n c) ∧
 nn true p fun (b o : Nat) =>
 (0 ≤ x ∧ x < (↑n : Int)) ∧
 ∃ (x_6 : ByteArray),
 w'.cell? (Addr.mk b (o + x.toNat) none) = some (Value.string x_6) ∧
 CallsS Tryd.prog 34 #[Value.string x_6] w'
 fun (e : Ending) (w'_1 : World) =>
 ∃ (x_7 : Bool),
 e = Ending.returned (Value.bool x_7) ∧
 bsp (!x_7) (R (Ending.returned (Value.int IntKind.i64 12)) w'_1)
 (∃ (p : Option Addr),
 ∃ (n : Nat),
 ∃ (c : Nat),
 w'_1.drew.cell? (Addr.mk n_1 (0 + 4) none) =
 some (Value.slice p n c) ∧
 (0 ≤ x ∧ x ≤ (↑c : Int)) ∧
 ∃ (p_1 : Option Addr),
 ∃ (n : Nat),
 ∃ (c_1 : Nat),
 w'_1.drew.cell? (Addr.mk n_1 (0 + 4) none) =
 some (Value.slice p_1 n c_1) ∧
 nn true p_1 fun (b o : Nat) =>
 (0 ≤ x ∧ x < (↑n : Int)) ∧
 ∃ (x_8 : ByteArray),
 w'_1.drew.cell? (Addr.mk b (o + x.toNat) none) =
 some (Value.string x_8) ∧
 CallsS Tryd.prog 35
 #[Value.slice p x.toNat c, Value.string x_8]
 w'_1.drew fun (e : Ending) (w'_2 : World) =>
 ∃ (x_9 : Bool),
 e = Ending.returned (Value.bool x_9) ∧
 bsp x_9
 (R (Ending.returned (Value.int IntKind.i64 7))
 w'_2)
 (I
 [Value.int IntKind.i64
 (IntKind.i64.wrap (x + 1))]
 w'_2 ∧
 m
 [Value.int IntKind.i64
 (IntKind.i64.wrap (x + 1))]
 w'_2 <
 m [Value.int IntKind.i64 x] w')))
 (R (Ending.returned (Value.int IntKind.i64 0)) w')))))
theorem vc_rcheck (nb : ByteArray) (ps : ByteArray) (mb : Int) (dl : Int) (p : Option Addr) (n : Nat) (c : Nat) (w : World) (R : Ending → World → Prop) (h : VC_rcheck nb ps mb dl p n c w R) : Calls Tryd.prog 13 ([Value.agg
    #[Value.string nb, Value.string ps, Value.int IntKind.i64 mb, Value.int IntKind.i64 dl,
      Value.slice p n c]] : List Value).toArray w R := by
  have e : execR { P := Tryd.prog, loops := [(12, [(8, Ck.int IntKind.i64)])], pur := pur1, tails := [(16, 9)], joins := [], boxes := [] } Tryd.f13.results.toList R (Tryd.f13.body.getD .skip) (initF [Value.agg
    #[Value.string nb, Value.string ps, Value.int IntKind.i64 mb, Value.int IntKind.i64 dl,
      Value.slice p n
        c]] (Tryd.f13.ntmps - ([Value.agg
    #[Value.string nb, Value.string ps, Value.int IntKind.i64 mb, Value.int IntKind.i64 dl,
      Value.slice p n c]] : List Value).length)) w = VC_rcheck nb ps mb dl p n c w R := by kernel_rfl
  have hb : Tryd.f13.body = some (Tryd.f13.body.getD .skip) := by kernel_rfl
  exact calls_of_exec' (P := Tryd.prog) (fn := Tryd.f13) (c := Tryd.f13.body.getD .skip) (args := [Value.agg
    #[Value.string nb, Value.string ps, Value.int IntKind.i64 mb, Value.int IntKind.i64 dl,
      Value.slice p n c]]) (w := w) (R := R) pur1_ok Tryd.func13 hb e h

def VC_rreason (nb : ByteArray) (ps : ByteArray) (mb : Int) (dl : Int) (p : Option Addr) (n : Nat) (c : Nat) (a : Array Value) (w : World) (R : Ending → World → Prop) : Prop :=
 ∀ (n_1 : Nat) (w1 : World),
 NewB w
 (Obj.cells #[Value.string nb, Value.string ps, Value.int IntKind.i64 mb, Value.int IntKind.i64 dl, Value.slice p n c]
 24)
 n_1 w1 →
 ∀ (n : Nat) (w1_1 : World),
 NewB w1 (Obj.cells a 27) n w1_1 →
 ∃ (x : ByteArray),
 w1_1.cell? (Addr.mk n (0 + 36) none) = some (Value.string x) ∧
 ∃ (x_1 : ByteArray),
 w1_1.cell? (Addr.mk n_1 0 none) = some (Value.string x_1) ∧
 bsp (x.toList == x_1.toList) (R (Ending.returned (Value.int IntKind.i64 1)) w1_1)
 (∃ (x : Bool),
 w1_1.cell? (Addr.mk n (0 + 35) none) = some (Value.bool x) ∧
 bsp x (R (Ending.returned (Value.int IntKind.i64 0)) w1_1)
 (∃ (x : ByteArray),
 w1_1.cell? (Addr.mk n_1 (0 + 1) none) = some (Value.string x) ∧
 CallsS Tryd.prog 33 #[Value.string x] w1_1 fun (e : Ending) (w' : World) =>
 ∃ (p : Option Addr),
 ∃ (n_2 : Nat),
 ∃ (c : Nat),
 ∃ (x : Int),
 ∃ (x_2 : Int),
 e =
 Ending.returned
 (Value.tuple #[Value.slice p n_2 c, Value.int IntKind.i64 x, Value.int IntKind.i64 x_2]) ∧
 ∃ (p_1 : Option Addr),
 ∃ (n_3 : Nat),
 ∃ (c_1 : Nat),
 w'.cell? (Addr.mk n (0 + 32) none) = some (Value.slice p_1 n_3 c_1) ∧
 CallsS Tryd.prog 36 #[Value.slice p n_2 c, Value.slice p_1 n_3 c_1] w'
 fun (e : Ending) (w' : World) =>
 ∃ (x : Bool),
 e = Ending.returned (Value.bool x) ∧
 bsp (!x) (R (Ending.returned (Value.int IntKind.i64 2)) w')
 (∃ (x : Int),
 w'.cell? (Addr.mk n_1 (0 + 2) none) = some (Value.int IntKind.i64 x) ∧
 ∃ (x_3 : Int),
 gimp (x != 0) (w'.cell? (Addr.mk n_1 (0 + 2) none) = some (Value.int IntKind.i64 x_3)) ∧
 ∃ (x_4 : Int),
 gimp (x != 0)
 (w'.cell? (Addr.mk n (0 + 34) none) = some (Value.int IntKind.i64 x_4)) ∧
 bsp (x != 0 && decide (x_3 < x_4)) (R (Ending.returned (Value.int IntKind.i64 3)) w')
 (∃ (p : Option Addr),
 ∃ (n_4 : Nat),
 ∃ (c : Nat),
 w'.cell? (Addr.mk n_1 (0 + 4) none) = some (Value.slice p n_4 c) ∧
 ∃ (x : ByteArray),
 gimp (decide ((↑n_4 : Int) > 0))
 (w'.cell? (Addr.mk n (0 + 33) none) = some (Value.string x)) ∧
 ∃ (p : Option Addr),
 ∃ (n_5 : Nat),
 ∃ (c : Nat),
 gimp (decide ((↑n_4 : Int) > 0) && !x.toList == [])
 (w'.cell? (Addr.mk n_1 (0 + 4) none) = some (Value.slice p n_5 c)) ∧
 ∃ (x_5 : ByteArray),
 gimp (decide ((↑n_4 : Int) > 0) && !x.toList == [])
 (w'.cell? (Addr.mk n (0 + 33) none) = some (Value.string x_5)) ∧
 bsp (decide ((↑n_4 : Int) > 0) && !x.toList == [])
 (CallsS Tryd.prog 35 #[Value.slice p n_5 c, Value.string x_5] w'
 fun (e : Ending) (w' : World) =>
 ∃ (x : Bool),
 e = Ending.returned (Value.bool x) ∧
 bsp (true && !x) (R (Ending.returned (Value.int IntKind.i64 4)) w')
 (R (Ending.returned (Value.int IntKind.i64 0)) w'))
 (R (Ending.returned (Value.int IntKind.i64 0)) w')))))
theorem vc_rreason (nb : ByteArray) (ps : ByteArray) (mb : Int) (dl : Int) (p : Option Addr) (n : Nat) (c : Nat) (a : Array Value) (w : World) (R : Ending → World → Prop) (h : VC_rreason nb ps mb dl p n c a w R) : Calls Tryd.prog 15 ([Value.agg
    #[Value.string nb, Value.string ps, Value.int IntKind.i64 mb, Value.int IntKind.i64 dl, Value.slice p n c],
  Value.agg a] : List Value).toArray w R := by
  have e : execR { P := Tryd.prog, loops := [], pur := pur1, tails := [], joins := [], boxes := [] } Tryd.f15.results.toList R (Tryd.f15.body.getD .skip) (initF [Value.agg
    #[Value.string nb, Value.string ps, Value.int IntKind.i64 mb, Value.int IntKind.i64 dl, Value.slice p n c],
  Value.agg
    a] (Tryd.f15.ntmps - ([Value.agg
    #[Value.string nb, Value.string ps, Value.int IntKind.i64 mb, Value.int IntKind.i64 dl, Value.slice p n c],
  Value.agg a] : List Value).length)) w = VC_rreason nb ps mb dl p n c a w R := by kernel_rfl
  have hb : Tryd.f15.body = some (Tryd.f15.body.getD .skip) := by kernel_rfl
  exact calls_of_exec' (P := Tryd.prog) (fn := Tryd.f15) (c := Tryd.f15.body.getD .skip) (args := [Value.agg
    #[Value.string nb, Value.string ps, Value.int IntKind.i64 mb, Value.int IntKind.i64 dl, Value.slice p n c],
  Value.agg a]) (w := w) (R := R) pur1_ok Tryd.func15 hb e h

def VC_rdue (nb : ByteArray) (ps : ByteArray) (mb : Int) (dl : Int) (p : Option Addr) (n : Nat) (c : Nat) (a : Array Value) (w : World) (R : Ending → World → Prop) : Prop :=
 ∀ (n_1 : Nat) (w1 : World),
 NewB w
 (Obj.cells #[Value.string nb, Value.string ps, Value.int IntKind.i64 mb, Value.int IntKind.i64 dl, Value.slice p n c]
 24)
 n_1 w1 →
 ∀ (n : Nat) (w1_1 : World),
 NewB w1 (Obj.cells a 27) n w1_1 →
 ∃ (x : Int),
 w1_1.cell? (Addr.mk n (0 + 37) none) = some (Value.int IntKind.i64 x) ∧
 ∃ (x_1 : Int),
 w1_1.cell? (Addr.mk n_1 (0 + 3) none) = some (Value.int IntKind.i64 x_1) ∧
 bsp (decide (x > IntKind.i64.wrap (9223372036854775807 - x_1)))
 (R (Ending.returned (Value.int IntKind.i64 9223372036854775807)) w1_1)
 (∃ (x : Int),
 w1_1.cell? (Addr.mk n (0 + 37) none) = some (Value.int IntKind.i64 x) ∧
 ∃ (x_2 : Int),
 w1_1.cell? (Addr.mk n_1 (0 + 3) none) = some (Value.int IntKind.i64 x_2) ∧
 R (Ending.returned (Value.int IntKind.i64 (IntKind.i64.wrap (x + x_2)))) w1_1)
theorem vc_rdue (nb : ByteArray) (ps : ByteArray) (mb : Int) (dl : Int) (p : Option Addr) (n : Nat) (c : Nat) (a : Array Value) (w : World) (R : Ending → World → Prop) (h : VC_rdue nb ps mb dl p n c a w R) : Calls Tryd.prog 18 ([Value.agg
    #[Value.string nb, Value.string ps, Value.int IntKind.i64 mb, Value.int IntKind.i64 dl, Value.slice p n c],
  Value.agg a] : List Value).toArray w R := by
  have e : execR { P := Tryd.prog, loops := [], pur := pur1, tails := [], joins := [], boxes := [] } Tryd.f18.results.toList R (Tryd.f18.body.getD .skip) (initF [Value.agg
    #[Value.string nb, Value.string ps, Value.int IntKind.i64 mb, Value.int IntKind.i64 dl, Value.slice p n c],
  Value.agg
    a] (Tryd.f18.ntmps - ([Value.agg
    #[Value.string nb, Value.string ps, Value.int IntKind.i64 mb, Value.int IntKind.i64 dl, Value.slice p n c],
  Value.agg a] : List Value).length)) w = VC_rdue nb ps mb dl p n c a w R := by kernel_rfl
  have hb : Tryd.f18.body = some (Tryd.f18.body.getD .skip) := by kernel_rfl
  exact calls_of_exec' (P := Tryd.prog) (fn := Tryd.f18) (c := Tryd.f18.body.getD .skip) (args := [Value.agg
    #[Value.string nb, Value.string ps, Value.int IntKind.i64 mb, Value.int IntKind.i64 dl, Value.slice p n c],
  Value.agg a]) (w := w) (R := R) pur1_ok Tryd.func18 hb e h

def VC_rselects (p : Option Addr) (n : Nat) (c : Nat) (q : Option Addr) (m : Nat) (d : Nat) (w : World) (R : Ending → World → Prop) : Prop :=
 ∃ (I : List Value → World → Prop),
 ∃ (m_1 : List Value → World → Nat),
 I [Value.int IntKind.i64 0, Value.bool false] w ∧
 ∀ (x : Int) (x_1 : Bool) (w' : World),
 I [Value.int IntKind.i64 x, Value.bool x_1] w' →
 bsp (decide (x < (↑m : Int)))
 (nn true q fun (b o : Nat) =>
 (0 ≤ x ∧ x < (↑m : Int)) ∧
 ∃ (x_2 : ByteArray),
 w'.cell? (Addr.mk b (o + x.toNat) none) = some (Value.string x_2) ∧
 CallsS Tryd.prog 57 #[Value.slice p n c, Value.string x_2] w' fun (e : Ending) (w'_1 : World) =>
 ∃ (x_3 : Int),
 e = Ending.returned (Value.int IntKind.i64 x_3) ∧
 bsp (x_3 == 3) (R (Ending.returned (Value.bool false)) w'_1)
 (I [Value.int IntKind.i64 (IntKind.i64.wrap (x + 1)), Value.bool (x_1 || x_3 == 1)] w'_1 ∧
 m_1 [Value.int IntKind.i64 (IntKind.i64.wrap (x + 1)), Value.bool (x_1 || x_3 == 1)] w'_1 <
 m_1 [Value.int IntKind.i64 x, Value.bool x_1] w'))
 (R (Ending.returned (Value.bool x_1)) w')
theorem vc_rselects (p : Option Addr) (n : Nat) (c : Nat) (q : Option Addr) (m : Nat) (d : Nat) (w : World) (R : Ending → World → Prop) (h : VC_rselects p n c q m d w R) : Calls Tryd.prog 36 ([Value.slice
    p n c,
  Value.slice q m d] : List Value).toArray w R := by
  have e : execR { P := Tryd.prog, loops := [(3, [(6, Ck.int IntKind.i64), (5, Ck.bool)])], pur := pur1, tails := [], joins := [], boxes := [] } Tryd.f36.results.toList R (Tryd.f36.body.getD .skip) (initF [Value.slice
    p n c,
  Value.slice q m
    d] (Tryd.f36.ntmps - ([Value.slice p n c,
  Value.slice q m d] : List Value).length)) w = VC_rselects p n c q m d w R := by kernel_rfl
  have hb : Tryd.f36.body = some (Tryd.f36.body.getD .skip) := by kernel_rfl
  exact calls_of_exec' (P := Tryd.prog) (fn := Tryd.f36) (c := Tryd.f36.body.getD .skip) (args := [Value.slice p n c,
  Value.slice q m d]) (w := w) (R := R) pur1_ok Tryd.func36 hb e h

def VC_rverdict (p : Option Addr) (n : Nat) (c : Nat) (s : ByteArray) (w : World) (R : Ending → World → Prop) : Prop :=
 ∃ (I : List Value → World → Prop),
 ∃ (m : List Value → World → Nat),
 I [Value.int IntKind.i64 0, Value.int IntKind.i64 0] w ∧
 ∀ (x x_1 : Int) (w' : World),
 I [Value.int IntKind.i64 x, Value.int IntKind.i64 x_1] w' →
 bsp (decide (x < (↑n : Int)))
 (nn true p fun (b o : Nat) =>
 (0 ≤ x ∧ x < (↑n : Int)) ∧
 ∃ (x_2 : ByteArray),
 ∃ (p_1 : Option Addr),
 ∃ (n_1 : Nat),
 ∃ (c : Nat),
 AtL w' b (o + x.toNat * 3 + 1) [Value.string x_2, Value.slice p_1 n_1 c] ∧
 CallsS Tryd.prog 73 #[Value.agg #[Value.string x_2, Value.slice p_1 n_1 c], Value.string s] w'
 fun (e : Ending) (w'_1 : World) =>
 ∃ (x_3 : Bool),
 e = Ending.returned (Value.bool x_3) ∧
 bsp x_3
 (nn true p fun (b o : Nat) =>
 (0 ≤ x ∧ x < (↑n : Int)) ∧
 ∃ (x_4 : Int),
 w'_1.cell? (Addr.mk b (o + x.toNat * 3) none) = some (Value.int IntKind.i64 x_4) ∧
 I [Value.int IntKind.i64 (IntKind.i64.wrap (x + 1)), Value.int IntKind.i64 x_4] w'_1 ∧
 m [Value.int IntKind.i64 (IntKind.i64.wrap (x + 1)), Value.int IntKind.i64 x_4] w'_1 <
 m [Value.int IntKind.i64 x, Value.int IntKind.i64 x_1] w')
 (I [Value.int IntKind.i64 (IntKind.i64.wrap (x + 1)), Value.int IntKind.i64 x_1] w'_1 ∧
 m [Value.int IntKind.i64 (IntKind.i64.wrap (x + 1)), Value.int IntKind.i64 x_1] w'_1 <
 m [Value.int IntKind.i64 x, Value.int IntKind.i64 x_1] w'))
 (R (Ending.returned (Value.int IntKind.i64 x_1)) w')
theorem vc_rverdict (p : Option Addr) (n : Nat) (c : Nat) (s : ByteArray) (w : World) (R : Ending → World → Prop) (h : VC_rverdict p n c s w R) : Calls Tryd.prog 57 ([Value.slice
    p n c,
  Value.string s] : List Value).toArray w R := by
  have e : execR { P := Tryd.prog, loops := [(3, [(6, Ck.int IntKind.i64), (5, Ck.int IntKind.i64)])], pur := pur1, tails := [], joins := [], boxes := [] } Tryd.f57.results.toList R (Tryd.f57.body.getD .skip) (initF [Value.slice
    p n c,
  Value.string
    s] (Tryd.f57.ntmps - ([Value.slice p n c,
  Value.string s] : List Value).length)) w = VC_rverdict p n c s w R := by kernel_rfl
  have hb : Tryd.f57.body = some (Tryd.f57.body.getD .skip) := by kernel_rfl
  exact calls_of_exec' (P := Tryd.prog) (fn := Tryd.f57) (c := Tryd.f57.body.getD .skip) (args := [Value.slice p n c,
  Value.string s]) (w := w) (R := R) pur1_ok Tryd.func57 hb e h

def VC_rmatch (t : ByteArray) (p : Option Addr) (n : Nat) (c : Nat) (s : ByteArray) (w : World) (R : Ending → World → Prop) : Prop :=
 ∀ (n_1 : Nat) (w1 : World),
 NewB w (Obj.cells #[Value.string t, Value.slice p n c] 120) n_1 w1 →
 ∃ (I : List Value → World → Prop),
 ∃ (m : List Value → World → Nat),
 I [Value.int IntKind.i64 0] w1 ∧
 ∀ (x : Int) (w' : World),
 I [Value.int IntKind.i64 x] w' →
 bsp (decide (x < (↑s.size : Int)))
 ((0 ≤ x ∧ x < (↑s.size : Int)) ∧
 bsp (!charB (at8 s x.toNat)) (R (Ending.returned (Value.bool false)) w')
 (I [Value.int IntKind.i64 (IntKind.i64.wrap (x + 1))] w' ∧
 m [Value.int IntKind.i64 (IntKind.i64.wrap (x + 1))] w' < m [Value.int IntKind.i64 x] w'))
 ((0 ≤ IntKind.i64.wrap ((↑s.size : Int) + 1) ∧
 IntKind.i64.wrap ((↑s.size : Int) + 1) ≤ IntKind.i64.wrap ((↑s.size : Int) + 1) ∧
 (↑1 : Int) * IntKind.i64.wrap ((↑s.size : Int) + 1) ≤ 281474976710656 ∧
 IntKind.i64.wrap ((↑s.size : Int) + 1) ≤ 9223372036854775807) ∧
 ∀ (n : Nat) (w1 : World),
 NewB w' (Obj.cells (madeCells #[Value.bool false] ((IntKind.i64.wrap ((↑s.size : Int) + 1)).toNat * 1)) 4) n
 w1 →
 ((0 : Int) ≤ 0 ∧ 0 < (↑(IntKind.i64.wrap ((↑s.size : Int) + 1)).toNat : Int)) ∧
 ((∃ (u : Value), w1.cell? (Addr.mk n 0 none) = some u) ∧ w1.frozen? (Addr.mk n 0 none) = false) ∧
 ∀ (w1_1 : World),
 PutB w1 n 0 [Value.bool true] w1_1 →
 ∃ (I : List Value → World → Prop),
 ∃ (m : List Value → World → Nat),
 I
 [Value.slice (some (Addr.mk n 0 none)) (IntKind.i64.wrap ((↑s.size : Int) + 1)).toNat
 (IntKind.i64.wrap ((↑s.size : Int) + 1)).toNat,
 Value.int IntKind.i64 0]
 w1_1 ∧
 ∀ (p : Option Addr) (n c : Nat) (x : Int) (w' : World),
 I [Value.slice p n c, Value.int IntKind.i64 x] w' →
 ∃ (p_1 : Option Addr),
 ∃ (n_2 : Nat),
 ∃ (c_1 : Nat),
 w'.cell? (Addr.mk n_1 (0 + 1) none) = some (Value.slice p_1 n_2 c_1) ∧
 bsp (decide (x < (↑n_2 : Int)))
 ((0 ≤ IntKind.i64.wrap ((↑s.size : Int) + 1) ∧
 IntKind.i64.wrap ((↑s.size : Int) + 1) ≤ IntKind.i64.wrap ((↑s.size : Int) + 1) ∧
 (↑1 : Int) * IntKind.i64.wrap ((↑s.size : Int) + 1) ≤ 281474976710656 ∧
 IntKind.i64.wrap ((↑s.size : Int) + 1) ≤ 9223372036854775807) ∧
 ∀ (n_3 : Nat) (w1 : World),
 NewB w'
 (Obj.cells
 (madeCells #[Value.bool false] ((IntKind.i64.wrap ((↑s.size : Int) + 1)).toNat * 1)) 4)
 n_3 w1 →
 ∃ (I_1 : List Value → World → Prop),
 ∃ (m_1 : List Value → World → Nat),
 I_1 [Value.int IntKind.i64 0] w1 ∧
 ∀ (x_1 : Int) (w'_1 : World),
 I_1 [Value.int IntKind.i64 x_1] w'_1 →
 bsp (decide (x_1 ≤ (↑s.size : Int)))
 (∃ (p_2 : Option Addr),
 ∃ (n_4 : Nat),
 ∃ (c : Nat),
 w'_1.cell? (Addr.mk n_1 (0 + 1) none) = some (Value.slice p_2 n_4 c) ∧
 nn true p_2 fun (b o : Nat) =>
 (0 ≤ x ∧ x < (↑n_4 : Int)) ∧
 ∃ (x_2 : Bool),
 w'_1.cell? (Addr.mk b (o + x.toNat * 129) none) = some (Value.bool x_2) ∧
 bsp x_2
 (nn true p fun (b o : Nat) =>
 (0 ≤ x_1 ∧ x_1 < (↑n : Int)) ∧
 ∃ (x : Bool),
 w'_1.cell? (Addr.mk b (o + x_1.toNat) none) = some (Value.bool x) ∧
 gimp (!x && decide (x_1 > 0))
 (0 ≤ IntKind.i64.wrap (x_1 - 1) ∧
 IntKind.i64.wrap (x_1 - 1) <
 (↑(IntKind.i64.wrap ((↑s.size : Int) + 1)).toNat : Int)) ∧
 ∃ (x_3 : Bool),
 gimp (!x && decide (x_1 > 0))
 (w'_1.cell?
 (Addr.mk n_3 (0 + (IntKind.i64.wrap (x_1 - 1)).toNat) none) =
 some (Value.bool x_3)) ∧
 (0 ≤ x_1 ∧
 x_1 < (↑(IntKind.i64.wrap ((↑s.size : Int) + 1)).toNat : Int)) ∧
 ((∃ (u : Value),
 w'_1.cell? (Addr.mk n_3 (0 + x_1.toNat) none) = some u) ∧
 w'_1.frozen? (Addr.mk n_3 (0 + x_1.toNat) none) = false) ∧
 ∀ (w1 : World),
 PutB w'_1 n_3 (0 + x_1.toNat)
 [Value.bool (x || decide (x_1 > 0) && x_3)] w1 →
 I_1 [Value.int IntKind.i64 (IntKind.i64.wrap (x_1 + 1))] w1 ∧
 m_1 [Value.int IntKind.i64 (IntKind.i64.wrap (x_1 + 1))] w1 <
 m_1 [Value.int IntKind.i64 x_1] w'_1)
 (bsp (decide (x_1 > 0))
 (nn true p fun (b o : Nat) =>
 (0 ≤ IntKind.i64.wrap (x_1 - 1) ∧
 IntKind.i64.wrap (x_1 - 1) < (↑n : Int)) ∧
 ∃ (x_3 : Bool),
 w'_1.drew.cell?
 (Addr.mk b (o + (IntKind.i64.wrap (x_1 - 1)).toNat) none) =
 some (Value.bool x_3) ∧
 ∃ (p : Option Addr),
 ∃ (n : Nat),
 ∃ (c : Nat),
 gimp x_3
 (w'_1.drew.cell? (Addr.mk n_1 (0 + 1) none) =
 some (Value.slice p n c)) ∧
 gimp x_3
 (0 ≤ IntKind.i64.wrap (x_1 - 1) ∧
 IntKind.i64.wrap (x_1 - 1) < (↑s.size : Int)) ∧
 nn x_3 p fun (b o : Nat) =>
 gimp x_3 (0 ≤ x ∧ x < (↑n : Int)) ∧
 gimp x_3
 (0 ≤ at8 s (IntKind.i64.wrap (x_1 - 1)).toNat ∧
 at8 s (IntKind.i64.wrap (x_1 - 1)).toNat < (↑128 : Int)) ∧
 ∃ (x_4 : Bool),
 gimp x_3
 (w'_1.drew.cell?
 (Addr.mk b
 (o + x.toNat * 129 + 1 +
 (at8 s (IntKind.i64.wrap (x_1 - 1)).toNat).toNat)
 none) =
 some (Value.bool x_4)) ∧
 (0 ≤ x_1 ∧
 x_1 <
 (↑(IntKind.i64.wrap ((↑s.size : Int) + 1)).toNat : Int)) ∧
 ((∃ (u : Value),
 w'_1.drew.cell? (Addr.mk n_3 (0 + x_1.toNat) none) =
 some u) ∧
 w'_1.drew.frozen? (Addr.mk n_3 (0 + x_1.toNat) none) =
 false) ∧
 ∀ (w1 : World),
 PutB w'_1.drew n_3 (0 + x_1.toNat)
 [Value.bool (x_3 && x_4)] w1 →
 I_1 [Value.int IntKind.i64 (IntKind.i64.wrap (x_1 + 1))]
 w1 ∧
 m_1 [Value.int IntKind.i64 (IntKind.i64.wrap (x_1 + 1))]
 w1 <
 m_1 [Value.int IntKind.i64 x_1] w'_1)
 (I_1 [Value.int IntKind.i64 (IntKind.i64.wrap (x_1 + 1))] w'_1 ∧
 m_1 [Value.int IntKind.i64 (IntKind.i64.wrap (x_1 + 1))] w'_1 <
 m_1 [Value.int IntKind.i64 x_1] w'_1)))
 (I
 [Value.slice (some (Addr.mk n_3 0 none))
 (IntKind.i64.wrap ((↑s.size : Int) + 1)).toNat
 (IntKind.i64.wrap ((↑s.size : Int) + 1)).toNat,
 Value.int IntKind.i64 (IntKind.i64.wrap (x + 1))]
 w'_1 ∧
 m
 [Value.slice (some (Addr.mk n_3 0 none))
 (IntKind.i64.wrap ((↑s.size : Int) + 1)).toNat
 (IntKind.i64.wrap ((↑s.size : Int) + 1)).toNat,
 Value.int IntKind.i64 (IntKind.i64.wrap (x + 1))]
 w'_1 <
 m [Value.slice p n c, Value.int IntKind.i64 x] w'))
 (nn true p fun (b o : Nat) =>
 (0 ≤ (↑s.size : Int) ∧ (↑s.size : Int) < (↑n : Int)) ∧
 ∃ (x : Bool),
 w'.cell? (Addr.mk b (o + (↑s.size : Int).toNat) none) = some (Value.bool x) ∧
 R (Ending.returned (Value.bool x)) w'))
theorem vc_rmatch (t : ByteArray) (p : Option Addr) (n : Nat) (c : Nat) (s : ByteArray) (w : World) (R : Ending → World → Prop) (h : VC_rmatch t p n c s w R) : Calls Tryd.prog 73 ([Value.agg
    #[Value.string t, Value.slice p n c],
  Value.string s] : List Value).toArray w R := by
  have e : execR { P := Tryd.prog, loops := [(2, [(5, Ck.int IntKind.i64)]), (9, [(6, Ck.slice), (7, Ck.int IntKind.i64)]), (13, [(9, Ck.int IntKind.i64)])], pur := pur1, tails := [(18, 21)], joins := [], boxes := [] } Tryd.f73.results.toList R (Tryd.f73.body.getD .skip) (initF [Value.agg
    #[Value.string t, Value.slice p n c],
  Value.string
    s] (Tryd.f73.ntmps - ([Value.agg #[Value.string t, Value.slice p n c],
  Value.string s] : List Value).length)) w = VC_rmatch t p n c s w R := by kernel_rfl
  have hb : Tryd.f73.body = some (Tryd.f73.body.getD .skip) := by kernel_rfl
  exact calls_of_exec' (P := Tryd.prog) (fn := Tryd.f73) (c := Tryd.f73.body.getD .skip) (args := [Value.agg
    #[Value.string t, Value.slice p n c],
  Value.string s]) (w := w) (R := R) pur1_ok Tryd.func73 hb e h

end Go.Proofs.YtcpjajjocmpkjaaDoor
