/- The formulas of functions by the symbolic evaluator, and that each gives the call's contract. Written by a program (gen.py). No condition. -/
import Derived.Test.YtcpjajjocmpkjaaDoorProg
import Derived.Test.YtcpjajjocmpkjaaDoorSound
import Derived.Test.YtcpjajjocmpkjaaDoorPur0
import Derived.KernelRfl
namespace Go.Proofs.YtcpjajjocmpkjaaDoor
set_option maxRecDepth 100000
set_option linter.unusedVariables false

def VC_newQuota (n : Int) (w : World) (R : Ending → World → Prop) : Prop :=
 bsp (decide (n < 0) || decide (n > 1099511627776))
 (R (Ending.returned (Value.tuple #[Value.pointer none, Value.int IntKind.i64 2])) w)
 (∀ (n_1 : Nat) (w1 : World),
 NewB w (Obj.cells #[Value.int IntKind.i64 n, Value.bool false, Value.int IntKind.i64 0, Value.int IntKind.i64 0] 93)
 n_1 w1 →
 R (Ending.returned (Value.tuple #[Value.pointer (some (Addr.mk n_1 0 none)), Value.int IntKind.i64 0])) w1)
theorem vc_newQuota (n : Int) (w : World) (R : Ending → World → Prop) (h : VC_newQuota n w R) : Calls Tryd.prog 19 ([Value.int
    IntKind.i64 n] : List Value).toArray w R := by
  have e : execR { P := Tryd.prog, loops := [], pur := pur0, tails := [], joins := [], boxes := [] } Tryd.f19.results.toList R (Tryd.f19.body.getD .skip) (initF [Value.int
    IntKind.i64
    n] (Tryd.f19.ntmps - ([Value.int IntKind.i64 n] : List Value).length)) w = VC_newQuota n w R := by kernel_rfl
  have hb : Tryd.f19.body = some (Tryd.f19.body.getD .skip) := by kernel_rfl
  exact calls_of_exec' (P := Tryd.prog) (fn := Tryd.f19) (c := Tryd.f19.body.getD .skip) (args := [Value.int IntKind.i64
    n]) (w := w) (R := R) pur0_ok Tryd.func19 hb e h

def VC_on (b : Nat) (o : Nat) (now : Int) (w : World) (R : Ending → World → Prop) : Prop :=
 bsp (decide (now < 0) || decide (now > 105190559))
 (R (Ending.returned (Value.tuple #[Value.int IntKind.i64 0, Value.int IntKind.i64 0, Value.int IntKind.i64 13])) w)
 (∃ (x : Bool),
 w.cell? (Addr.mk b (o + 1) none) = some (Value.bool x) ∧
 ∃ (x_1 : Int),
 gimp (!!x) (w.cell? (Addr.mk b (o + 2) none) = some (Value.int IntKind.i64 x_1)) ∧
 bsp (!x || decide (IntKind.i64.wrap (now.tdiv 1440) > x_1))
 (R
 (Ending.returned
 (Value.tuple
 #[Value.int IntKind.i64 (IntKind.i64.wrap (now.tdiv 1440)), Value.int IntKind.i64 0, Value.int IntKind.i64 0]))
 w)
 (∃ (x : Int),
 w.cell? (Addr.mk b (o + 2) none) = some (Value.int IntKind.i64 x) ∧
 bsp (decide (IntKind.i64.wrap (now.tdiv 1440) < x))
 (R
 (Ending.returned (Value.tuple #[Value.int IntKind.i64 0, Value.int IntKind.i64 0, Value.int IntKind.i64 13]))
 w)
 (∃ (x : Int),
 w.drew.cell? (Addr.mk b (o + 3) none) = some (Value.int IntKind.i64 x) ∧
 R
 (Ending.returned
 (Value.tuple
 #[Value.int IntKind.i64 (IntKind.i64.wrap (now.tdiv 1440)), Value.int IntKind.i64 x,
 Value.int IntKind.i64 0]))
 w.drew)))
theorem vc_on (b : Nat) (o : Nat) (now : Int) (w : World) (R : Ending → World → Prop) (h : VC_on b o now w R) : Calls Tryd.prog 45 ([Value.pointer
    (some { block := b, off := o }),
  Value.int IntKind.i64 now] : List Value).toArray w R := by
  have e : execR { P := Tryd.prog, loops := [], pur := pur0, tails := [], joins := [], boxes := [] } Tryd.f45.results.toList R (Tryd.f45.body.getD .skip) (initF [Value.pointer
    (some { block := b, off := o }),
  Value.int IntKind.i64
    now] (Tryd.f45.ntmps - ([Value.pointer (some { block := b, off := o }),
  Value.int IntKind.i64 now] : List Value).length)) w = VC_on b o now w R := by kernel_rfl
  have hb : Tryd.f45.body = some (Tryd.f45.body.getD .skip) := by kernel_rfl
  exact calls_of_exec' (P := Tryd.prog) (fn := Tryd.f45) (c := Tryd.f45.body.getD .skip) (args := [Value.pointer
    (some { block := b, off := o }),
  Value.int IntKind.i64 now]) (w := w) (R := R) pur0_ok Tryd.func45 hb e h

def VC_take (b : Nat) (o : Nat) (n : Int) (now : Int) (w : World) (R : Ending → World → Prop) : Prop :=
 bsp (decide (n < 0) || decide (n > 1099511627776)) (R (Ending.returned (Value.int IntKind.i64 2)) w)
 (CallsS Tryd.prog 45 #[Value.pointer (some (Addr.mk b o none)), Value.int IntKind.i64 now] w
 fun (e : Ending) (w' : World) =>
 ∃ (x : Int),
 ∃ (x_1 : Int),
 ∃ (x_2 : Int),
 e =
 Ending.returned (Value.tuple #[Value.int IntKind.i64 x, Value.int IntKind.i64 x_1, Value.int IntKind.i64 x_2]) ∧
 bsp (x_2 != 0) (R (Ending.returned (Value.int IntKind.i64 x_2)) w')
 (∃ (x_3 : Int),
 w'.cell? (Addr.mk b o none) = some (Value.int IntKind.i64 x_3) ∧
 bsp (x_3 == 0)
 (((∃ (u : Value), w'.cell? (Addr.mk b (o + 1) none) = some u) ∧ w'.frozen? (Addr.mk b (o + 1) none) = false) ∧
 ∀ (w1 : World),
 PutB w' b (o + 1) [Value.bool true] w1 →
 ((∃ (u : Value), w1.cell? (Addr.mk b (o + 2) none) = some u) ∧
 w1.frozen? (Addr.mk b (o + 2) none) = false) ∧
 ∀ (w1_1 : World),
 PutB w1 b (o + 2) [Value.int IntKind.i64 x] w1_1 →
 ((∃ (u : Value), w1_1.cell? (Addr.mk b (o + 3) none) = some u) ∧
 w1_1.frozen? (Addr.mk b (o + 3) none) = false) ∧
 ∀ (w1 : World),
 PutB w1_1 b (o + 3) [Value.int IntKind.i64 (IntKind.i64.wrap (x_1 + 0))] w1 →
 R (Ending.returned (Value.int IntKind.i64 0)) w1)
 (∃ (x_4 : Int),
 w'.cell? (Addr.mk b o none) = some (Value.int IntKind.i64 x_4) ∧
 bsp (decide (IntKind.i64.wrap (x_1 + n) > x_4)) (R (Ending.returned (Value.int IntKind.i64 9)) w')
 (((∃ (u : Value), w'.cell? (Addr.mk b (o + 1) none) = some u) ∧
 w'.frozen? (Addr.mk b (o + 1) none) = false) ∧
 ∀ (w1 : World),
 PutB w' b (o + 1) [Value.bool true] w1 →
 ((∃ (u : Value), w1.cell? (Addr.mk b (o + 2) none) = some u) ∧
 w1.frozen? (Addr.mk b (o + 2) none) = false) ∧
 ∀ (w1_1 : World),
 PutB w1 b (o + 2) [Value.int IntKind.i64 x] w1_1 →
 ((∃ (u : Value), w1_1.cell? (Addr.mk b (o + 3) none) = some u) ∧
 w1_1.frozen? (Addr.mk b (o + 3) none) = false) ∧
 ∀ (w1 : World),
 PutB w1_1 b (o + 3) [Value.int IntKind.i64 (IntKind.i64.wrap (x_1 + n))] w1 →
 R (Ending.returned (Value.int IntKind.i64 0)) w1))))
theorem vc_take (b : Nat) (o : Nat) (n : Int) (now : Int) (w : World) (R : Ending → World → Prop) (h : VC_take b o n now w R) : Calls Tryd.prog 21 ([Value.pointer
    (some { block := b, off := o }),
  Value.int IntKind.i64 n, Value.int IntKind.i64 now] : List Value).toArray w R := by
  have e : execR { P := Tryd.prog, loops := [], pur := pur0, tails := [], joins := [], boxes := [] } Tryd.f21.results.toList R (Tryd.f21.body.getD .skip) (initF [Value.pointer
    (some { block := b, off := o }),
  Value.int IntKind.i64 n,
  Value.int IntKind.i64
    now] (Tryd.f21.ntmps - ([Value.pointer (some { block := b, off := o }), Value.int IntKind.i64 n,
  Value.int IntKind.i64 now] : List Value).length)) w = VC_take b o n now w R := by kernel_rfl
  have hb : Tryd.f21.body = some (Tryd.f21.body.getD .skip) := by kernel_rfl
  exact calls_of_exec' (P := Tryd.prog) (fn := Tryd.f21) (c := Tryd.f21.body.getD .skip) (args := [Value.pointer
    (some { block := b, off := o }),
  Value.int IntKind.i64 n, Value.int IntKind.i64 now]) (w := w) (R := R) pur0_ok Tryd.func21 hb e h

def VC_left (b : Nat) (o : Nat) (now : Int) (w : World) (R : Ending → World → Prop) : Prop :=
 ∃ (x : Int),
 w.cell? (Addr.mk b o none) = some (Value.int IntKind.i64 x) ∧
 bsp (x == 0) (R (Ending.returned (Value.int IntKind.i64 (-1))) w)
 (CallsS Tryd.prog 45 #[Value.pointer (some (Addr.mk b o none)), Value.int IntKind.i64 now] w
 fun (e : Ending) (w' : World) =>
 ∃ (x : Int),
 ∃ (x_1 : Int),
 ∃ (x_2 : Int),
 e =
 Ending.returned
 (Value.tuple #[Value.int IntKind.i64 x, Value.int IntKind.i64 x_1, Value.int IntKind.i64 x_2]) ∧
 bsp (x_2 != 0) (R (Ending.returned (Value.int IntKind.i64 0)) w')
 (∃ (x : Int),
 w'.cell? (Addr.mk b o none) = some (Value.int IntKind.i64 x) ∧
 R (Ending.returned (Value.int IntKind.i64 (IntKind.i64.wrap (x - x_1)))) w'))
theorem vc_left (b : Nat) (o : Nat) (now : Int) (w : World) (R : Ending → World → Prop) (h : VC_left b o now w R) : Calls Tryd.prog 22 ([Value.pointer
    (some { block := b, off := o }),
  Value.int IntKind.i64 now] : List Value).toArray w R := by
  have e : execR { P := Tryd.prog, loops := [], pur := pur0, tails := [], joins := [], boxes := [] } Tryd.f22.results.toList R (Tryd.f22.body.getD .skip) (initF [Value.pointer
    (some { block := b, off := o }),
  Value.int IntKind.i64
    now] (Tryd.f22.ntmps - ([Value.pointer (some { block := b, off := o }),
  Value.int IntKind.i64 now] : List Value).length)) w = VC_left b o now w R := by kernel_rfl
  have hb : Tryd.f22.body = some (Tryd.f22.body.getD .skip) := by kernel_rfl
  exact calls_of_exec' (P := Tryd.prog) (fn := Tryd.f22) (c := Tryd.f22.body.getD .skip) (args := [Value.pointer
    (some { block := b, off := o }),
  Value.int IntKind.i64 now]) (w := w) (R := R) pur0_ok Tryd.func22 hb e h

def VC_refDate (l : Int) (d : Int) (u : Int) (now : Int) (w : World) (R : Ending → World → Prop) : Prop :=
 ∀ (n : Nat) (w1 : World),
 NewB w (Obj.cells #[Value.int IntKind.i64 l, Value.int IntKind.i64 d, Value.int IntKind.i64 u] 52) n w1 →
 ∃ (x : Int),
 gimp (decide (now ≥ 0) && decide (now ≤ 105190559))
 (w1.cell? (Addr.mk n (0 + 1) none) = some (Value.int IntKind.i64 x)) ∧
 R
 (Ending.returned
 (Value.bool (decide (now ≥ 0) && decide (now ≤ 105190559) && decide (IntKind.i64.wrap (now.tdiv 1440) ≥ x))))
 w1
theorem vc_refDate (l : Int) (d : Int) (u : Int) (now : Int) (w : World) (R : Ending → World → Prop) (h : VC_refDate l d u now w R) : Calls Tryd.prog 43 ([Value.agg
    #[Value.int IntKind.i64 l, Value.int IntKind.i64 d, Value.int IntKind.i64 u],
  Value.int IntKind.i64 now] : List Value).toArray w R := by
  have e : execR { P := Tryd.prog, loops := [], pur := pur0, tails := [], joins := [], boxes := [] } Tryd.f43.results.toList R (Tryd.f43.body.getD .skip) (initF [Value.agg
    #[Value.int IntKind.i64 l, Value.int IntKind.i64 d, Value.int IntKind.i64 u],
  Value.int IntKind.i64
    now] (Tryd.f43.ntmps - ([Value.agg #[Value.int IntKind.i64 l, Value.int IntKind.i64 d, Value.int IntKind.i64 u],
  Value.int IntKind.i64 now] : List Value).length)) w = VC_refDate l d u now w R := by kernel_rfl
  have hb : Tryd.f43.body = some (Tryd.f43.body.getD .skip) := by kernel_rfl
  exact calls_of_exec' (P := Tryd.prog) (fn := Tryd.f43) (c := Tryd.f43.body.getD .skip) (args := [Value.agg
    #[Value.int IntKind.i64 l, Value.int IntKind.i64 d, Value.int IntKind.i64 u],
  Value.int IntKind.i64 now]) (w := w) (R := R) pur0_ok Tryd.func43 hb e h

def VC_refUsed (l : Int) (d : Int) (u : Int) (now : Int) (w : World) (R : Ending → World → Prop) : Prop :=
 ∀ (n : Nat) (w1 : World),
 NewB w (Obj.cells #[Value.int IntKind.i64 l, Value.int IntKind.i64 d, Value.int IntKind.i64 u] 52) n w1 →
 ∃ (x : Int),
 w1.cell? (Addr.mk n (0 + 1) none) = some (Value.int IntKind.i64 x) ∧
 bsp (decide (IntKind.i64.wrap (now.tdiv 1440) > x)) (R (Ending.returned (Value.int IntKind.i64 0)) w1)
 (∃ (x : Int),
 w1.cell? (Addr.mk n (0 + 2) none) = some (Value.int IntKind.i64 x) ∧
 R (Ending.returned (Value.int IntKind.i64 x)) w1)
theorem vc_refUsed (l : Int) (d : Int) (u : Int) (now : Int) (w : World) (R : Ending → World → Prop) (h : VC_refUsed l d u now w R) : Calls Tryd.prog 44 ([Value.agg
    #[Value.int IntKind.i64 l, Value.int IntKind.i64 d, Value.int IntKind.i64 u],
  Value.int IntKind.i64 now] : List Value).toArray w R := by
  have e : execR { P := Tryd.prog, loops := [], pur := pur0, tails := [], joins := [], boxes := [] } Tryd.f44.results.toList R (Tryd.f44.body.getD .skip) (initF [Value.agg
    #[Value.int IntKind.i64 l, Value.int IntKind.i64 d, Value.int IntKind.i64 u],
  Value.int IntKind.i64
    now] (Tryd.f44.ntmps - ([Value.agg #[Value.int IntKind.i64 l, Value.int IntKind.i64 d, Value.int IntKind.i64 u],
  Value.int IntKind.i64 now] : List Value).length)) w = VC_refUsed l d u now w R := by kernel_rfl
  have hb : Tryd.f44.body = some (Tryd.f44.body.getD .skip) := by kernel_rfl
  exact calls_of_exec' (P := Tryd.prog) (fn := Tryd.f44) (c := Tryd.f44.body.getD .skip) (args := [Value.agg
    #[Value.int IntKind.i64 l, Value.int IntKind.i64 d, Value.int IntKind.i64 u],
  Value.int IntKind.i64 now]) (w := w) (R := R) pur0_ok Tryd.func44 hb e h

def VC_refTake (l : Int) (d : Int) (u : Int) (n : Int) (now : Int) (w : World) (R : Ending → World → Prop) : Prop :=
 ∀ (n_1 : Nat) (w1 : World),
 NewB w (Obj.cells #[Value.int IntKind.i64 l, Value.int IntKind.i64 d, Value.int IntKind.i64 u] 52) n_1 w1 →
 ∀ (n_2 : Nat) (w1_1 : World),
 NewB w1 (Obj.cells #[Value.int IntKind.i64 0, Value.int IntKind.i64 0, Value.int IntKind.i64 0] 52) n_2 w1_1 →
 bsp (decide (n < 0) || decide (n > 1099511627776))
 (∃ (x : Int),
 ∃ (x_1 : Int),
 ∃ (x_2 : Int),
 AtL w1_1 n_1 0 [Value.int IntKind.i64 x, Value.int IntKind.i64 x_1, Value.int IntKind.i64 x_2] ∧
 WrL w1_1 n_2 0 3 ∧
 ∀ (w1 : World),
 PutB w1_1 n_2 0 [Value.int IntKind.i64 x, Value.int IntKind.i64 x_1, Value.int IntKind.i64 x_2] w1 →
 ∃ (x : Int),
 ∃ (x_3 : Int),
 ∃ (x_4 : Int),
 AtL w1 n_2 0 [Value.int IntKind.i64 x, Value.int IntKind.i64 x_3, Value.int IntKind.i64 x_4] ∧
 R
 (Ending.returned
 (Value.tuple
 #[Value.agg #[Value.int IntKind.i64 x, Value.int IntKind.i64 x_3, Value.int IntKind.i64 x_4],
 Value.int IntKind.i64 2]))
 w1)
 (∃ (x : Int),
 ∃ (x_1 : Int),
 ∃ (x_2 : Int),
 AtL w1_1 n_1 0 [Value.int IntKind.i64 x, Value.int IntKind.i64 x_1, Value.int IntKind.i64 x_2] ∧
 CallsS Tryd.prog 43
 #[Value.agg #[Value.int IntKind.i64 x, Value.int IntKind.i64 x_1, Value.int IntKind.i64 x_2],
 Value.int IntKind.i64 now]
 w1_1 fun (e : Ending) (w' : World) =>
 ∃ (x : Bool),
 e = Ending.returned (Value.bool x) ∧
 bsp (!x)
 (∃ (x : Int),
 ∃ (x_3 : Int),
 ∃ (x_4 : Int),
 AtL w' n_1 0 [Value.int IntKind.i64 x, Value.int IntKind.i64 x_3, Value.int IntKind.i64 x_4] ∧
 WrL w' n_2 0 3 ∧
 ∀ (w1 : World),
 PutB w' n_2 0 [Value.int IntKind.i64 x, Value.int IntKind.i64 x_3, Value.int IntKind.i64 x_4] w1 →
 ∃ (x : Int),
 ∃ (x_5 : Int),
 ∃ (x_6 : Int),
 AtL w1 n_2 0 [Value.int IntKind.i64 x, Value.int IntKind.i64 x_5, Value.int IntKind.i64 x_6] ∧
 R
 (Ending.returned
 (Value.tuple
 #[Value.agg #[Value.int IntKind.i64 x, Value.int IntKind.i64 x_5, Value.int IntKind.i64 x_6],
 Value.int IntKind.i64 13]))
 w1)
 (∃ (S : World → Prop),
 S w'.drew ∧
 ∃ (x : Int),
 (∀ (w' : World), S w' → w'.cell? (Addr.mk n_1 0 none) = some (Value.int IntKind.i64 x)) ∧
 ∃ (x_3 : Int),
 ∃ (x_4 : Int),
 ∃ (x_5 : Int),
 gimp (decide (x > 0))
 (∀ (w' : World),
 S w' →
 AtL w' n_1 0
 [Value.int IntKind.i64 x_3, Value.int IntKind.i64 x_4, Value.int IntKind.i64 x_5]) ∧
 ∃ (x_6 : Int),
 gimp (decide (x > 0))
 (∀ (w' : World), S w' → w'.cell? (Addr.mk n_1 0 none) = some (Value.int IntKind.i64 x_6)) ∧
 bsp (decide (x > 0))
 (CallsS Tryd.prog 44
 #[Value.agg #[Value.int IntKind.i64 x_3, Value.int IntKind.i64 x_4, Value.int IntKind.i64 x_5],
 Value.int IntKind.i64 now]
 w'.drew fun (e : Ending) (w' : World) =>
 ∃ (x : Int),
 e = Ending.returned (Value.int IntKind.i64 x) ∧
 S w' ∧
 bsp (true && decide (IntKind.i64.wrap (x + n) > x_6))
 (∃ (x : Int),
 ∃ (x_7 : Int),
 ∃ (x_8 : Int),
 AtL w' n_1 0
 [Value.int IntKind.i64 x, Value.int IntKind.i64 x_7, Value.int IntKind.i64 x_8] ∧
 WrL w' n_2 0 3 ∧
 ∀ (w1 : World),
 PutB w' n_2 0
 [Value.int IntKind.i64 x, Value.int IntKind.i64 x_7, Value.int IntKind.i64 x_8]
 w1 →
 ∃ (x : Int),
 ∃ (x_9 : Int),
 ∃ (x_10 : Int),
 AtL w1 n_2 0
 [Value.int IntKind.i64 x, Value.int IntKind.i64 x_9,
 Value.int IntKind.i64 x_10] ∧
 R
 (Ending.returned
 (Value.tuple
 #[Value.agg
 #[Value.int IntKind.i64 x, Value.int IntKind.i64 x_9,
 Value.int IntKind.i64 x_10],
 Value.int IntKind.i64 9]))
 w1)
 (∃ (x : Int),
 w'.cell? (Addr.mk n_1 0 none) = some (Value.int IntKind.i64 x) ∧
 bsp (x == 0)
 (WrL w' n_2 0 3 ∧
 ∀ (w1 : World),
 PutB w' n_2 0
 [Value.int IntKind.i64 0, Value.int IntKind.i64 (IntKind.i64.wrap (now.tdiv 1440)),
 Value.int IntKind.i64 0]
 w1 →
 ∃ (x : Int),
 ∃ (x_7 : Int),
 ∃ (x_8 : Int),
 AtL w1 n_2 0
 [Value.int IntKind.i64 x, Value.int IntKind.i64 x_7,
 Value.int IntKind.i64 x_8] ∧
 R
 (Ending.returned
 (Value.tuple
 #[Value.agg
 #[Value.int IntKind.i64 x, Value.int IntKind.i64 x_7,
 Value.int IntKind.i64 x_8],
 Value.int IntKind.i64 0]))
 w1)
 (∃ (S : World → Prop),
 S w'.drew ∧
 ∃ (x : Int),
 (∀ (w' : World),
 S w' → w'.cell? (Addr.mk n_1 0 none) = some (Value.int IntKind.i64 x)) ∧
 ∃ (x_7 : Int),
 ∃ (x_8 : Int),
 ∃ (x_9 : Int),
 (∀ (w' : World),
 S w' →
 AtL w' n_1 0
 [Value.int IntKind.i64 x_7, Value.int IntKind.i64 x_8,
 Value.int IntKind.i64 x_9]) ∧
 CallsS Tryd.prog 44
 #[Value.agg
 #[Value.int IntKind.i64 x_7, Value.int IntKind.i64 x_8,
 Value.int IntKind.i64 x_9],
 Value.int IntKind.i64 now]
 w'.drew fun (e : Ending) (w' : World) =>
 ∃ (x_10 : Int),
 e = Ending.returned (Value.int IntKind.i64 x_10) ∧
 S w' ∧
 WrL w' n_2 0 3 ∧
 ∀ (w1 : World),
 PutB w' n_2 0
 [Value.int IntKind.i64 x,
 Value.int IntKind.i64 (IntKind.i64.wrap (now.tdiv 1440)),
 Value.int IntKind.i64 (IntKind.i64.wrap (x_10 + n))]
 w1 →
 ∃ (x : Int),
 ∃ (x_11 : Int),
 ∃ (x_12 : Int),
 AtL w1 n_2 0
 [Value.int IntKind.i64 x, Value.int IntKind.i64 x_11,
 Value.int IntKind.i64 x_12] ∧
 R
 (Ending.returned
 (Value.tuple
 #[Value.agg
 #[Value.int IntKind.i64 x, Value.int IntKind.i64 x_11,
 Value.int IntKind.i64 x_12],
 Value.int IntKind.i64 0]))
 w1)))
 (S w'.drew ∧
 ∃ (x : Int),
 w'.drew.cell? (Addr.mk n_1 0 none) = some (Value.int IntKind.i64 x) ∧
 bsp (x == 0)
 (WrL w'.drew n_2 0 3 ∧
 ∀ (w1 : World),
 PutB w'.drew n_2 0
 [Value.int IntKind.i64 0, Value.int IntKind.i64 (IntKind.i64.wrap (now.tdiv 1440)),
 Value.int IntKind.i64 0]
 w1 →
 ∃ (x : Int),
 ∃ (x_7 : Int),
 ∃ (x_8 : Int),
 AtL w1 n_2 0
 [Value.int IntKind.i64 x, Value.int IntKind.i64 x_7, Value.int IntKind.i64 x_8] ∧
 R
 (Ending.returned
 (Value.tuple
 #[Value.agg
 #[Value.int IntKind.i64 x, Value.int IntKind.i64 x_7,
 Value.int IntKind.i64 x_8],
 Value.int IntKind.i64 0]))
 w1)
 (∃ (S : World → Prop),
 S w'.drew.drew ∧
 ∃ (x : Int),
 (∀ (w' : World), S w' → w'.cell? (Addr.mk n_1 0 none) = some (Value.int IntKind.i64 x)) ∧
 ∃ (x_7 : Int),
 ∃ (x_8 : Int),
 ∃ (x_9 : Int),
 (∀ (w' : World),
 S w' →
 AtL w' n_1 0
 [Value.int IntKind.i64 x_7, Value.int IntKind.i64 x_8,
 Value.int IntKind.i64 x_9]) ∧
 CallsS Tryd.prog 44
 #[Value.agg
 #[Value.int IntKind.i64 x_7, Value.int IntKind.i64 x_8,
 Value.int IntKind.i64 x_9],
 Value.int IntKind.i64 now]
 w'.drew.drew fun (e : Ending) (w' : World) =>
 ∃ (x_10 : Int),
 e = Ending.returned (Value.int IntKind.i64 x_10) ∧
 S w' ∧
 WrL w' n_2 0 3 ∧
 ∀ (w1 : World),
 PutB w' n_2 0
 [Value.int IntKind.i64 x,
 Value.int IntKind.i64 (IntKind.i64.wrap (now.tdiv 1440)),
 Value.int IntKind.i64 (IntKind.i64.wrap (x_10 + n))]
 w1 →
 ∃ (x : Int),
 ∃ (x_11 : Int),
 ∃ (x_12 : Int),
 AtL w1 n_2 0
 [Value.int IntKind.i64 x, Value.int IntKind.i64 x_11,
 Value.int IntKind.i64 x_12] ∧
 R
 (Ending.returned
 (Value.tuple
 #[Value.agg
 #[Value.int IntKind.i64 x, Value.int IntKind.i64 x_11,
 Value.int IntKind.i64 x_12],
 Value.int IntKind.i64 0]))
 w1))))
theorem vc_refTake (l : Int) (d : Int) (u : Int) (n : Int) (now : Int) (w : World) (R : Ending → World → Prop) (h : VC_refTake l d u n now w R) : Calls Tryd.prog 20 ([Value.agg
    #[Value.int IntKind.i64 l, Value.int IntKind.i64 d, Value.int IntKind.i64 u],
  Value.int IntKind.i64 n, Value.int IntKind.i64 now] : List Value).toArray w R := by
  have e : execR { P := Tryd.prog, loops := [], pur := pur0, tails := [(5, 6), (9, 6)], joins := [], boxes := [] } Tryd.f20.results.toList R (Tryd.f20.body.getD .skip) (initF [Value.agg
    #[Value.int IntKind.i64 l, Value.int IntKind.i64 d, Value.int IntKind.i64 u],
  Value.int IntKind.i64 n,
  Value.int IntKind.i64
    now] (Tryd.f20.ntmps - ([Value.agg #[Value.int IntKind.i64 l, Value.int IntKind.i64 d, Value.int IntKind.i64 u],
  Value.int IntKind.i64 n,
  Value.int IntKind.i64 now] : List Value).length)) w = VC_refTake l d u n now w R := by kernel_rfl
  have hb : Tryd.f20.body = some (Tryd.f20.body.getD .skip) := by kernel_rfl
  exact calls_of_exec' (P := Tryd.prog) (fn := Tryd.f20) (c := Tryd.f20.body.getD .skip) (args := [Value.agg
    #[Value.int IntKind.i64 l, Value.int IntKind.i64 d, Value.int IntKind.i64 u],
  Value.int IntKind.i64 n, Value.int IntKind.i64 now]) (w := w) (R := R) pur0_ok Tryd.func20 hb e h

def VC_refLeft (l : Int) (d : Int) (u : Int) (now : Int) (w : World) (R : Ending → World → Prop) : Prop :=
 ∀ (n : Nat) (w1 : World),
 NewB w (Obj.cells #[Value.int IntKind.i64 l, Value.int IntKind.i64 d, Value.int IntKind.i64 u] 52) n w1 →
 ∃ (x : Int),
 w1.cell? (Addr.mk n 0 none) = some (Value.int IntKind.i64 x) ∧
 bsp (x == 0) (R (Ending.returned (Value.int IntKind.i64 (-1))) w1)
 (∃ (x : Int),
 ∃ (x_1 : Int),
 ∃ (x_2 : Int),
 AtL w1 n 0 [Value.int IntKind.i64 x, Value.int IntKind.i64 x_1, Value.int IntKind.i64 x_2] ∧
 CallsS Tryd.prog 43
 #[Value.agg #[Value.int IntKind.i64 x, Value.int IntKind.i64 x_1, Value.int IntKind.i64 x_2],
 Value.int IntKind.i64 now]
 w1 fun (e : Ending) (w' : World) =>
 ∃ (x : Bool),
 e = Ending.returned (Value.bool x) ∧
 bsp (!x) (R (Ending.returned (Value.int IntKind.i64 0)) w')
 (∃ (S : World → Prop),
 S w'.drew ∧
 ∃ (x : Int),
 (∀ (w' : World), S w' → w'.cell? (Addr.mk n 0 none) = some (Value.int IntKind.i64 x)) ∧
 ∃ (x_3 : Int),
 ∃ (x_4 : Int),
 ∃ (x_5 : Int),
 (∀ (w' : World),
 S w' →
 AtL w' n 0 [Value.int IntKind.i64 x_3, Value.int IntKind.i64 x_4, Value.int IntKind.i64 x_5]) ∧
 CallsS Tryd.prog 44
 #[Value.agg #[Value.int IntKind.i64 x_3, Value.int IntKind.i64 x_4, Value.int IntKind.i64 x_5],
 Value.int IntKind.i64 now]
 w'.drew fun (e : Ending) (w' : World) =>
 ∃ (x_6 : Int),
 e = Ending.returned (Value.int IntKind.i64 x_6) ∧
 S w' ∧ R (Ending.returned (Value.int IntKind.i64 (IntKind.i64.wrap (x - x_6)))) w'))
theorem vc_refLeft (l : Int) (d : Int) (u : Int) (now : Int) (w : World) (R : Ending → World → Prop) (h : VC_refLeft l d u now w R) : Calls Tryd.prog 23 ([Value.agg
    #[Value.int IntKind.i64 l, Value.int IntKind.i64 d, Value.int IntKind.i64 u],
  Value.int IntKind.i64 now] : List Value).toArray w R := by
  have e : execR { P := Tryd.prog, loops := [], pur := pur0, tails := [(5, 4)], joins := [], boxes := [] } Tryd.f23.results.toList R (Tryd.f23.body.getD .skip) (initF [Value.agg
    #[Value.int IntKind.i64 l, Value.int IntKind.i64 d, Value.int IntKind.i64 u],
  Value.int IntKind.i64
    now] (Tryd.f23.ntmps - ([Value.agg #[Value.int IntKind.i64 l, Value.int IntKind.i64 d, Value.int IntKind.i64 u],
  Value.int IntKind.i64 now] : List Value).length)) w = VC_refLeft l d u now w R := by kernel_rfl
  have hb : Tryd.f23.body = some (Tryd.f23.body.getD .skip) := by kernel_rfl
  exact calls_of_exec' (P := Tryd.prog) (fn := Tryd.f23) (c := Tryd.f23.body.getD .skip) (args := [Value.agg
    #[Value.int IntKind.i64 l, Value.int IntKind.i64 d, Value.int IntKind.i64 u],
  Value.int IntKind.i64 now]) (w := w) (R := R) pur0_ok Tryd.func23 hb e h

end Go.Proofs.YtcpjajjocmpkjaaDoor
