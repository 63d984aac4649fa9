/- The formulas of functions by the symbolic evaluator, and that each gives the call's contract. Written by a program (gen.py). No condition. -/
import Derived.Test.YtcpjajjocmpkjaaDoorProg
import Derived.Test.YtcpjajjocmpkjaaDoorSound
import Derived.Test.YtcpjajjocmpkjaaDoorPur0
import Derived.KernelRfl
namespace Go.Proofs.YtcpjajjocmpkjaaDoor
set_option maxRecDepth 100000
set_option linter.unusedVariables false

def VC_isLower (c : Int) (w : World) (R : Ending → World → Prop) : Prop :=
 R (Ending.returned (Value.bool (decide (c ≥ 97) && decide (c ≤ 122)))) w
theorem vc_isLower (c : Int) (w : World) (R : Ending → World → Prop) (h : VC_isLower c w R) : Calls Tryd.prog 61 ([Value.int
    IntKind.u8 c] : List Value).toArray w R := by
  have e : execR { P := Tryd.prog, loops := [], pur := pur0, tails := [], joins := [], boxes := [] } Tryd.f61.results.toList R (Tryd.f61.body.getD .skip) (initF [Value.int
    IntKind.u8
    c] (Tryd.f61.ntmps - ([Value.int IntKind.u8 c] : List Value).length)) w = VC_isLower c w R := by kernel_rfl
  have hb : Tryd.f61.body = some (Tryd.f61.body.getD .skip) := by kernel_rfl
  exact calls_of_exec' (P := Tryd.prog) (fn := Tryd.f61) (c := Tryd.f61.body.getD .skip) (args := [Value.int IntKind.u8
    c]) (w := w) (R := R) pur0_ok Tryd.func61 hb e h

def VC_isDigit (c : Int) (w : World) (R : Ending → World → Prop) : Prop :=
 R (Ending.returned (Value.bool (decide (c ≥ 48) && decide (c ≤ 57)))) w
theorem vc_isDigit (c : Int) (w : World) (R : Ending → World → Prop) (h : VC_isDigit c w R) : Calls Tryd.prog 62 ([Value.int
    IntKind.u8 c] : List Value).toArray w R := by
  have e : execR { P := Tryd.prog, loops := [], pur := pur0, tails := [], joins := [], boxes := [] } Tryd.f62.results.toList R (Tryd.f62.body.getD .skip) (initF [Value.int
    IntKind.u8
    c] (Tryd.f62.ntmps - ([Value.int IntKind.u8 c] : List Value).length)) w = VC_isDigit c w R := by kernel_rfl
  have hb : Tryd.f62.body = some (Tryd.f62.body.getD .skip) := by kernel_rfl
  exact calls_of_exec' (P := Tryd.prog) (fn := Tryd.f62) (c := Tryd.f62.body.getD .skip) (args := [Value.int IntKind.u8
    c]) (w := w) (R := R) pur0_ok Tryd.func62 hb e h

def VC_isPermitted (c : Int) (w : World) (R : Ending → World → Prop) : Prop :=
 CallsS Tryd.prog 61 #[Value.int IntKind.u8 c] w fun (e : Ending) (w' : World) =>
 ∃ (x : Bool),
 e = Ending.returned (Value.bool x) ∧
 bsp (!x)
 (CallsS Tryd.prog 62 #[Value.int IntKind.u8 c] w' fun (e : Ending) (w' : World) =>
 ∃ (x : Bool),
 e = Ending.returned (Value.bool x) ∧ R (Ending.returned (Value.bool (false || x || c == 45 || c == 46))) w')
 (R (Ending.returned (Value.bool (true || c == 45 || c == 46))) w')
theorem vc_isPermitted (c : Int) (w : World) (R : Ending → World → Prop) (h : VC_isPermitted c w R) : Calls Tryd.prog 60 ([Value.int
    IntKind.u8 c] : List Value).toArray w R := by
  have e : execR { P := Tryd.prog, loops := [], pur := pur0, tails := [], joins := [], boxes := [] } Tryd.f60.results.toList R (Tryd.f60.body.getD .skip) (initF [Value.int
    IntKind.u8
    c] (Tryd.f60.ntmps - ([Value.int IntKind.u8 c] : List Value).length)) w = VC_isPermitted c w R := by kernel_rfl
  have hb : Tryd.f60.body = some (Tryd.f60.body.getD .skip) := by kernel_rfl
  exact calls_of_exec' (P := Tryd.prog) (fn := Tryd.f60) (c := Tryd.f60.body.getD .skip) (args := [Value.int IntKind.u8
    c]) (w := w) (R := R) pur0_ok Tryd.func60 hb e h

def VC_alnum (c : Int) (w : World) (R : Ending → World → Prop) : Prop :=
 bsp (decide (c ≥ 97) && decide (c ≤ 122)) (R (Ending.returned (Value.int IntKind.i64 1)) w)
 (bsp (decide (c ≥ 48) && decide (c ≤ 57)) (R (Ending.returned (Value.int IntKind.i64 2)) w)
 (R (Ending.returned (Value.int IntKind.i64 0)) w))
theorem vc_alnum (c : Int) (w : World) (R : Ending → World → Prop) (h : VC_alnum c w R) : Calls Tryd.prog 92 ([Value.int
    IntKind.u8 c] : List Value).toArray w R := by
  have e : execR { P := Tryd.prog, loops := [], pur := pur0, tails := [], joins := [], boxes := [] } Tryd.f92.results.toList R (Tryd.f92.body.getD .skip) (initF [Value.int
    IntKind.u8 c] (Tryd.f92.ntmps - ([Value.int IntKind.u8 c] : List Value).length)) w = VC_alnum c w R := by kernel_rfl
  have hb : Tryd.f92.body = some (Tryd.f92.body.getD .skip) := by kernel_rfl
  exact calls_of_exec' (P := Tryd.prog) (fn := Tryd.f92) (c := Tryd.f92.body.getD .skip) (args := [Value.int IntKind.u8
    c]) (w := w) (R := R) pur0_ok Tryd.func92 hb e h

def VC_char (c : Int) (w : World) (R : Ending → World → Prop) : Prop :=
 CallsS Tryd.prog 92 #[Value.int IntKind.u8 c] w fun (e : Ending) (w' : World) =>
 ∃ (x : Int),
 e = Ending.returned (Value.int IntKind.i64 x) ∧
 R (Ending.returned (Value.bool (decide (x > 0) || c == 43 || c == 45 || c == 95 || c == 46))) w'
theorem vc_char (c : Int) (w : World) (R : Ending → World → Prop) (h : VC_char c w R) : Calls Tryd.prog 71 ([Value.int
    IntKind.u8 c] : List Value).toArray w R := by
  have e : execR { P := Tryd.prog, loops := [], pur := pur0, tails := [], joins := [], boxes := [] } Tryd.f71.results.toList R (Tryd.f71.body.getD .skip) (initF [Value.int
    IntKind.u8 c] (Tryd.f71.ntmps - ([Value.int IntKind.u8 c] : List Value).length)) w = VC_char c w R := by kernel_rfl
  have hb : Tryd.f71.body = some (Tryd.f71.body.getD .skip) := by kernel_rfl
  exact calls_of_exec' (P := Tryd.prog) (fn := Tryd.f71) (c := Tryd.f71.body.getD .skip) (args := [Value.int IntKind.u8
    c]) (w := w) (R := R) pur0_ok Tryd.func71 hb e h

def VC_litChars (s : ByteArray) (w : World) (R : Ending → World → Prop) : Prop :=
 R (Ending.returned (Value.string s)) w
theorem vc_litChars (s : ByteArray) (w : World) (R : Ending → World → Prop) (h : VC_litChars s w R) : Calls Tryd.prog 133 ([Value.string
    s] : List Value).toArray w R := by
  have e : execR { P := Tryd.prog, loops := [], pur := pur0, tails := [], joins := [], boxes := [] } Tryd.f133.results.toList R (Tryd.f133.body.getD .skip) (initF [Value.string
    s] (Tryd.f133.ntmps - ([Value.string s] : List Value).length)) w = VC_litChars s w R := by kernel_rfl
  have hb : Tryd.f133.body = some (Tryd.f133.body.getD .skip) := by kernel_rfl
  exact calls_of_exec' (P := Tryd.prog) (fn := Tryd.f133) (c := Tryd.f133.body.getD .skip) (args := [Value.string
    s]) (w := w) (R := R) pur0_ok Tryd.func133 hb e h

def VC_classChars (s : ByteArray) (w : World) (R : Ending → World → Prop) : Prop :=
 R (Ending.returned (Value.string s)) w
theorem vc_classChars (s : ByteArray) (w : World) (R : Ending → World → Prop) (h : VC_classChars s w R) : Calls Tryd.prog 132 ([Value.string
    s] : List Value).toArray w R := by
  have e : execR { P := Tryd.prog, loops := [], pur := pur0, tails := [], joins := [], boxes := [] } Tryd.f132.results.toList R (Tryd.f132.body.getD .skip) (initF [Value.string
    s] (Tryd.f132.ntmps - ([Value.string s] : List Value).length)) w = VC_classChars s w R := by kernel_rfl
  have hb : Tryd.f132.body = some (Tryd.f132.body.getD .skip) := by kernel_rfl
  exact calls_of_exec' (P := Tryd.prog) (fn := Tryd.f132) (c := Tryd.f132.body.getD .skip) (args := [Value.string
    s]) (w := w) (R := R) pur0_ok Tryd.func132 hb e h

def VC_singleChars (w : World) (R : Ending → World → Prop) : Prop :=
 ∀ (n : Nat) (w1 : World),
 NewB w (Obj.cells #[] 141) n w1 →
 R
 (Ending.returned
 (Value.string
 (ByteArray.mk
 #[43, 45, 46, 48, 49, 50, 51, 52, 53, 54, 55, 56, 57, 95, 97, 98, 99, 100, 101, 102, 103, 104, 105, 106, 107, 108,
 109, 110, 111, 112, 113, 114, 115, 116, 117, 118, 119, 120, 121, 122])))
 w1
theorem vc_singleChars (w : World) (R : Ending → World → Prop) (h : VC_singleChars w R) : Calls Tryd.prog 130 ([Value.agg
    #[]] : List Value).toArray w R := by
  have e : execR { P := Tryd.prog, loops := [], pur := pur0, tails := [], joins := [], boxes := [] } Tryd.f130.results.toList R (Tryd.f130.body.getD .skip) (initF [Value.agg
    #[]] (Tryd.f130.ntmps - ([Value.agg #[]] : List Value).length)) w = VC_singleChars w R := by kernel_rfl
  have hb : Tryd.f130.body = some (Tryd.f130.body.getD .skip) := by kernel_rfl
  exact calls_of_exec' (P := Tryd.prog) (fn := Tryd.f130) (c := Tryd.f130.body.getD .skip) (args := [Value.agg
    #[]]) (w := w) (R := R) pur0_ok Tryd.func130 hb e h

def VC_starChars (w : World) (R : Ending → World → Prop) : Prop :=
 ∀ (n : Nat) (w1 : World),
 NewB w (Obj.cells #[] 142) n w1 →
 R
 (Ending.returned
 (Value.string
 (ByteArray.mk
 #[43, 45, 46, 48, 49, 50, 51, 52, 53, 54, 55, 56, 57, 95, 97, 98, 99, 100, 101, 102, 103, 104, 105, 106, 107, 108,
 109, 110, 111, 112, 113, 114, 115, 116, 117, 118, 119, 120, 121, 122])))
 w1
theorem vc_starChars (w : World) (R : Ending → World → Prop) (h : VC_starChars w R) : Calls Tryd.prog 131 ([Value.agg
    #[]] : List Value).toArray w R := by
  have e : execR { P := Tryd.prog, loops := [], pur := pur0, tails := [], joins := [], boxes := [] } Tryd.f131.results.toList R (Tryd.f131.body.getD .skip) (initF [Value.agg
    #[]] (Tryd.f131.ntmps - ([Value.agg #[]] : List Value).length)) w = VC_starChars w R := by kernel_rfl
  have hb : Tryd.f131.body = some (Tryd.f131.body.getD .skip) := by kernel_rfl
  exact calls_of_exec' (P := Tryd.prog) (fn := Tryd.f131) (c := Tryd.f131.body.getD .skip) (args := [Value.agg
    #[]]) (w := w) (R := R) pur0_ok Tryd.func131 hb e h

def VC_isStarL (s : ByteArray) (w : World) (R : Ending → World → Prop) : Prop :=
 ∀ (n : Nat) (w1 : World),
 NewB w (Obj.cells #[] 142) n w1 →
 True ∧ ∀ (w1_1 : World), PutB w1 n 0 [] w1_1 → R (Ending.returned (Value.bool false)) w1_1
theorem vc_isStarL (s : ByteArray) (w : World) (R : Ending → World → Prop) (h : VC_isStarL s w R) : Calls Tryd.prog 95 ([Value.iface
    147 (Value.string s)] : List Value).toArray w R := by
  have e : execR { P := Tryd.prog, loops := [], pur := pur0, tails := [], joins := [], boxes := [] } Tryd.f95.results.toList R (Tryd.f95.body.getD .skip) (initF [Value.iface
    147
    (Value.string
      s)] (Tryd.f95.ntmps - ([Value.iface 147
    (Value.string s)] : List Value).length)) w = VC_isStarL s w R := by kernel_rfl
  have hb : Tryd.f95.body = some (Tryd.f95.body.getD .skip) := by kernel_rfl
  exact calls_of_exec' (P := Tryd.prog) (fn := Tryd.f95) (c := Tryd.f95.body.getD .skip) (args := [Value.iface 147
    (Value.string s)]) (w := w) (R := R) pur0_ok Tryd.func95 hb e h

def VC_isStarC (s : ByteArray) (w : World) (R : Ending → World → Prop) : Prop :=
 ∀ (n : Nat) (w1 : World),
 NewB w (Obj.cells #[] 142) n w1 →
 True ∧ ∀ (w1_1 : World), PutB w1 n 0 [] w1_1 → R (Ending.returned (Value.bool false)) w1_1
theorem vc_isStarC (s : ByteArray) (w : World) (R : Ending → World → Prop) (h : VC_isStarC s w R) : Calls Tryd.prog 95 ([Value.iface
    143 (Value.string s)] : List Value).toArray w R := by
  have e : execR { P := Tryd.prog, loops := [], pur := pur0, tails := [], joins := [], boxes := [] } Tryd.f95.results.toList R (Tryd.f95.body.getD .skip) (initF [Value.iface
    143
    (Value.string
      s)] (Tryd.f95.ntmps - ([Value.iface 143
    (Value.string s)] : List Value).length)) w = VC_isStarC s w R := by kernel_rfl
  have hb : Tryd.f95.body = some (Tryd.f95.body.getD .skip) := by kernel_rfl
  exact calls_of_exec' (P := Tryd.prog) (fn := Tryd.f95) (c := Tryd.f95.body.getD .skip) (args := [Value.iface 143
    (Value.string s)]) (w := w) (R := R) pur0_ok Tryd.func95 hb e h

def VC_isStarQ (w : World) (R : Ending → World → Prop) : Prop :=
 ∀ (n : Nat) (w1 : World),
 NewB w (Obj.cells #[] 142) n w1 →
 True ∧ ∀ (w1_1 : World), PutB w1 n 0 [] w1_1 → R (Ending.returned (Value.bool false)) w1_1
theorem vc_isStarQ (w : World) (R : Ending → World → Prop) (h : VC_isStarQ w R) : Calls Tryd.prog 95 ([Value.iface 141
    (Value.agg #[])] : List Value).toArray w R := by
  have e : execR { P := Tryd.prog, loops := [], pur := pur0, tails := [], joins := [], boxes := [] } Tryd.f95.results.toList R (Tryd.f95.body.getD .skip) (initF [Value.iface
    141
    (Value.agg
      #[])] (Tryd.f95.ntmps - ([Value.iface 141
    (Value.agg #[])] : List Value).length)) w = VC_isStarQ w R := by kernel_rfl
  have hb : Tryd.f95.body = some (Tryd.f95.body.getD .skip) := by kernel_rfl
  exact calls_of_exec' (P := Tryd.prog) (fn := Tryd.f95) (c := Tryd.f95.body.getD .skip) (args := [Value.iface 141
    (Value.agg #[])]) (w := w) (R := R) pur0_ok Tryd.func95 hb e h

def VC_isStarS (w : World) (R : Ending → World → Prop) : Prop :=
 ∀ (n : Nat) (w1 : World),
 NewB w (Obj.cells #[] 142) n w1 →
 True ∧ ∀ (w1_1 : World), PutB w1 n 0 [] w1_1 → R (Ending.returned (Value.bool true)) w1_1
theorem vc_isStarS (w : World) (R : Ending → World → Prop) (h : VC_isStarS w R) : Calls Tryd.prog 95 ([Value.iface 142
    (Value.agg #[])] : List Value).toArray w R := by
  have e : execR { P := Tryd.prog, loops := [], pur := pur0, tails := [], joins := [], boxes := [] } Tryd.f95.results.toList R (Tryd.f95.body.getD .skip) (initF [Value.iface
    142
    (Value.agg
      #[])] (Tryd.f95.ntmps - ([Value.iface 142
    (Value.agg #[])] : List Value).length)) w = VC_isStarS w R := by kernel_rfl
  have hb : Tryd.f95.body = some (Tryd.f95.body.getD .skip) := by kernel_rfl
  exact calls_of_exec' (P := Tryd.prog) (fn := Tryd.f95) (c := Tryd.f95.body.getD .skip) (args := [Value.iface 142
    (Value.agg #[])]) (w := w) (R := R) pur0_ok Tryd.func95 hb e h

def VC_standsL (s : ByteArray) (c : Int) (w : World) (R : Ending → World → Prop) : Prop :=
 CallsS Tryd.prog 133 #[Value.string s] w fun (e : Ending) (w' : World) =>
 ∃ (x : ByteArray),
 e = Ending.returned (Value.string x) ∧
 CallsS Tryd.prog 70 #[Value.string x, Value.int IntKind.u8 c] w' fun (e : Ending) (w' : World) =>
 ∃ (x : Int), e = Ending.returned (Value.int IntKind.i64 x) ∧ R (Ending.returned (Value.bool (decide (x ≥ 0)))) w'
theorem vc_standsL (s : ByteArray) (c : Int) (w : World) (R : Ending → World → Prop) (h : VC_standsL s c w R) : Calls Tryd.prog 94 ([Value.iface
    147 (Value.string s),
  Value.int IntKind.u8 c] : List Value).toArray w R := by
  have e : execR { P := Tryd.prog, loops := [], pur := pur0, tails := [], joins := [], boxes := [] } Tryd.f94.results.toList R (Tryd.f94.body.getD .skip) (initF [Value.iface
    147 (Value.string s),
  Value.int IntKind.u8
    c] (Tryd.f94.ntmps - ([Value.iface 147 (Value.string s),
  Value.int IntKind.u8 c] : List Value).length)) w = VC_standsL s c w R := by kernel_rfl
  have hb : Tryd.f94.body = some (Tryd.f94.body.getD .skip) := by kernel_rfl
  exact calls_of_exec' (P := Tryd.prog) (fn := Tryd.f94) (c := Tryd.f94.body.getD .skip) (args := [Value.iface 147
    (Value.string s),
  Value.int IntKind.u8 c]) (w := w) (R := R) pur0_ok Tryd.func94 hb e h

def VC_standsC (s : ByteArray) (c : Int) (w : World) (R : Ending → World → Prop) : Prop :=
 CallsS Tryd.prog 132 #[Value.string s] w fun (e : Ending) (w' : World) =>
 ∃ (x : ByteArray),
 e = Ending.returned (Value.string x) ∧
 CallsS Tryd.prog 70 #[Value.string x, Value.int IntKind.u8 c] w' fun (e : Ending) (w' : World) =>
 ∃ (x : Int), e = Ending.returned (Value.int IntKind.i64 x) ∧ R (Ending.returned (Value.bool (decide (x ≥ 0)))) w'
theorem vc_standsC (s : ByteArray) (c : Int) (w : World) (R : Ending → World → Prop) (h : VC_standsC s c w R) : Calls Tryd.prog 94 ([Value.iface
    143 (Value.string s),
  Value.int IntKind.u8 c] : List Value).toArray w R := by
  have e : execR { P := Tryd.prog, loops := [], pur := pur0, tails := [], joins := [], boxes := [] } Tryd.f94.results.toList R (Tryd.f94.body.getD .skip) (initF [Value.iface
    143 (Value.string s),
  Value.int IntKind.u8
    c] (Tryd.f94.ntmps - ([Value.iface 143 (Value.string s),
  Value.int IntKind.u8 c] : List Value).length)) w = VC_standsC s c w R := by kernel_rfl
  have hb : Tryd.f94.body = some (Tryd.f94.body.getD .skip) := by kernel_rfl
  exact calls_of_exec' (P := Tryd.prog) (fn := Tryd.f94) (c := Tryd.f94.body.getD .skip) (args := [Value.iface 143
    (Value.string s),
  Value.int IntKind.u8 c]) (w := w) (R := R) pur0_ok Tryd.func94 hb e h

def VC_standsQ (c : Int) (w : World) (R : Ending → World → Prop) : Prop :=
 CallsS Tryd.prog 130 #[Value.agg #[]] w fun (e : Ending) (w' : World) =>
 ∃ (x : ByteArray),
 e = Ending.returned (Value.string x) ∧
 CallsS Tryd.prog 70 #[Value.string x, Value.int IntKind.u8 c] w' fun (e : Ending) (w' : World) =>
 ∃ (x : Int), e = Ending.returned (Value.int IntKind.i64 x) ∧ R (Ending.returned (Value.bool (decide (x ≥ 0)))) w'
theorem vc_standsQ (c : Int) (w : World) (R : Ending → World → Prop) (h : VC_standsQ c w R) : Calls Tryd.prog 94 ([Value.iface
    141 (Value.agg #[]),
  Value.int IntKind.u8 c] : List Value).toArray w R := by
  have e : execR { P := Tryd.prog, loops := [], pur := pur0, tails := [], joins := [], boxes := [] } Tryd.f94.results.toList R (Tryd.f94.body.getD .skip) (initF [Value.iface
    141 (Value.agg #[]),
  Value.int IntKind.u8
    c] (Tryd.f94.ntmps - ([Value.iface 141 (Value.agg #[]),
  Value.int IntKind.u8 c] : List Value).length)) w = VC_standsQ c w R := by kernel_rfl
  have hb : Tryd.f94.body = some (Tryd.f94.body.getD .skip) := by kernel_rfl
  exact calls_of_exec' (P := Tryd.prog) (fn := Tryd.f94) (c := Tryd.f94.body.getD .skip) (args := [Value.iface 141
    (Value.agg #[]),
  Value.int IntKind.u8 c]) (w := w) (R := R) pur0_ok Tryd.func94 hb e h

def VC_standsS (c : Int) (w : World) (R : Ending → World → Prop) : Prop :=
 CallsS Tryd.prog 131 #[Value.agg #[]] w fun (e : Ending) (w' : World) =>
 ∃ (x : ByteArray),
 e = Ending.returned (Value.string x) ∧
 CallsS Tryd.prog 70 #[Value.string x, Value.int IntKind.u8 c] w' fun (e : Ending) (w' : World) =>
 ∃ (x : Int), e = Ending.returned (Value.int IntKind.i64 x) ∧ R (Ending.returned (Value.bool (decide (x ≥ 0)))) w'
theorem vc_standsS (c : Int) (w : World) (R : Ending → World → Prop) (h : VC_standsS c w R) : Calls Tryd.prog 94 ([Value.iface
    142 (Value.agg #[]),
  Value.int IntKind.u8 c] : List Value).toArray w R := by
  have e : execR { P := Tryd.prog, loops := [], pur := pur0, tails := [], joins := [], boxes := [] } Tryd.f94.results.toList R (Tryd.f94.body.getD .skip) (initF [Value.iface
    142 (Value.agg #[]),
  Value.int IntKind.u8
    c] (Tryd.f94.ntmps - ([Value.iface 142 (Value.agg #[]),
  Value.int IntKind.u8 c] : List Value).length)) w = VC_standsS c w R := by kernel_rfl
  have hb : Tryd.f94.body = some (Tryd.f94.body.getD .skip) := by kernel_rfl
  exact calls_of_exec' (P := Tryd.prog) (fn := Tryd.f94) (c := Tryd.f94.body.getD .skip) (args := [Value.iface 142
    (Value.agg #[]),
  Value.int IntKind.u8 c]) (w := w) (R := R) pur0_ok Tryd.func94 hb e h

def VC_ref11Site (s : ByteArray) (w : World) (R : Ending → World → Prop) : Prop :=
 bsp (s.toList == []) (R (Ending.returned (Value.tuple #[Value.int IntKind.i64 0, Value.int IntKind.i64 4])) w)
 (bsp (decide ((↑s.size : Int) > 30))
 (R (Ending.returned (Value.tuple #[Value.int IntKind.i64 30, Value.int IntKind.i64 5])) w)
 (∃ (I : List Value → World → Prop),
 ∃ (m : List Value → World → Nat),
 I [Value.int IntKind.i64 0] w ∧
 ∀ (x : Int) (w' : World),
 I [Value.int IntKind.i64 x] w' →
 bsp (decide (x < (↑s.size : Int)))
 ((0 ≤ x ∧ x < (↑s.size : Int)) ∧
 bsp
 (!(decide (at8 s x.toNat ≥ 97) && decide (at8 s x.toNat ≤ 122) ||
 decide (at8 s x.toNat ≥ 48) && decide (at8 s x.toNat ≤ 57) ||
 at8 s x.toNat == 45 ||
 at8 s x.toNat == 46))
 (R (Ending.returned (Value.tuple #[Value.int IntKind.i64 x, Value.int IntKind.i64 6])) w')
 (I [Value.int IntKind.i64 (IntKind.i64.wrap (x + 1))] w' ∧
 m [Value.int IntKind.i64 (IntKind.i64.wrap (x + 1))] w' < m [Value.int IntKind.i64 x] w'))
 (∃ (I : List Value → World → Prop),
 ∃ (m : List Value → World → Nat),
 I [Value.int IntKind.i64 0] w' ∧
 ∀ (x : Int) (w' : World),
 I [Value.int IntKind.i64 x] w' →
 bsp (decide (x < (↑s.size : Int)))
 ((0 ≤ x ∧ x < (↑s.size : Int)) ∧
 gimp
 (!(x == 0 && !(decide (at8 s x.toNat ≥ 97) && decide (at8 s x.toNat ≤ 122))) &&
 (decide (x > 0) && at8 s x.toNat == 46))
 (0 ≤ IntKind.i64.wrap (x - 1) ∧ IntKind.i64.wrap (x - 1) < (↑s.size : Int)) ∧
 bsp
 (x == 0 && !(decide (at8 s x.toNat ≥ 97) && decide (at8 s x.toNat ≤ 122)) ||
 decide (x > 0) && at8 s x.toNat == 46 && at8 s (IntKind.i64.wrap (x - 1)).toNat == 46 ||
 x == IntKind.i64.wrap ((↑s.size : Int) - 1) && (at8 s x.toNat == 45 || at8 s x.toNat == 46))
 (R (Ending.returned (Value.tuple #[Value.int IntKind.i64 x, Value.int IntKind.i64 12])) w')
 (I [Value.int IntKind.i64 (IntKind.i64.wrap (x + 1))] w' ∧
 m [Value.int IntKind.i64 (IntKind.i64.wrap (x + 1))] w' < m [Value.int IntKind.i64 x] w'))
 (R (Ending.returned (Value.tuple #[Value.int IntKind.i64 0, Value.int IntKind.i64 0])) w'))))
theorem vc_ref11Site (s : ByteArray) (w : World) (R : Ending → World → Prop) (h : VC_ref11Site s w R) : Calls Tryd.prog 32 ([Value.string
    s] : List Value).toArray w R := by
  have e : execR { P := Tryd.prog, loops := [(6, [(4, Ck.int IntKind.i64)]), (12, [(6, Ck.int IntKind.i64)])], pur := pur0, tails := [], joins := [], boxes := [] } Tryd.f32.results.toList R (Tryd.f32.body.getD .skip) (initF [Value.string
    s] (Tryd.f32.ntmps - ([Value.string s] : List Value).length)) w = VC_ref11Site s w R := by kernel_rfl
  have hb : Tryd.f32.body = some (Tryd.f32.body.getD .skip) := by kernel_rfl
  exact calls_of_exec' (P := Tryd.prog) (fn := Tryd.f32) (c := Tryd.f32.body.getD .skip) (args := [Value.string
    s]) (w := w) (R := R) pur0_ok Tryd.func32 hb e h

def VC_word (s : ByteArray) (w : World) (R : Ending → World → Prop) : Prop :=
 ∃ (I : List Value → World → Prop),
 ∃ (m : List Value → World → Nat),
 I [Value.int IntKind.i64 0] w ∧
 ∀ (x : Int) (w' : World),
 I [Value.int IntKind.i64 x] w' →
 bsp (decide (x < (↑s.size : Int)))
 ((0 ≤ x ∧ x < (↑s.size : Int)) ∧
 bsp
 ((decide (at8 s x.toNat < 97) || decide (at8 s x.toNat > 122)) &&
 (decide (at8 s x.toNat < 48) || decide (at8 s x.toNat > 57)) &&
 at8 s x.toNat != 45)
 (R (Ending.returned (Value.bool false)) w')
 (I [Value.int IntKind.i64 (IntKind.i64.wrap (x + 1))] w' ∧
 m [Value.int IntKind.i64 (IntKind.i64.wrap (x + 1))] w' < m [Value.int IntKind.i64 x] w'))
 (R (Ending.returned (Value.bool (decide ((↑s.size : Int) ≥ 1) && decide ((↑s.size : Int) ≤ 20)))) w')
theorem vc_word (s : ByteArray) (w : World) (R : Ending → World → Prop) (h : VC_word s w R) : Calls Tryd.prog 34 ([Value.string
    s] : List Value).toArray w R := by
  have e : execR { P := Tryd.prog, loops := [(2, [(3, Ck.int IntKind.i64)])], pur := pur0, tails := [], joins := [], boxes := [] } Tryd.f34.results.toList R (Tryd.f34.body.getD .skip) (initF [Value.string
    s] (Tryd.f34.ntmps - ([Value.string s] : List Value).length)) w = VC_word s w R := by kernel_rfl
  have hb : Tryd.f34.body = some (Tryd.f34.body.getD .skip) := by kernel_rfl
  exact calls_of_exec' (P := Tryd.prog) (fn := Tryd.f34) (c := Tryd.f34.body.getD .skip) (args := [Value.string
    s]) (w := w) (R := R) pur0_ok Tryd.func34 hb e h

end Go.Proofs.YtcpjajjocmpkjaaDoor
