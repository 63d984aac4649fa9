/- The formulas of functions by the symbolic evaluator, and that each gives the call's contract. Written by a program (gen.py). No condition. -/
import Derived.Test.YtmjanmffnblcoaaProg
import Derived.Test.YtmjanmffnblcoaaZ02
import Derived.Test.YtmjanmffnblcoaaZ04
import Derived.KernelRfl
import Derived.Shelf.Small.Strs
import Derived.Shelf.Strings.Search1
import Derived.Shelf.Strings.Prefix
import Derived.Ground.Names2Prog
import Derived.Shelf.Slices.Clone
import Derived.Test.YtmjanmffnblcoaaZ03
import Derived.Lib.Bytealg
import Derived.Sort.Statements
namespace Go.Proofs.Ytmjanmffnblcoaa
set_option maxRecDepth 100000
set_option linter.unusedVariables false

def VC_isLower (c : Int) (w : World) (R : Ending → World → Prop) : Prop :=
 R (Ending.returned (Value.bool (decide (c ≥ 97) && decide (c ≤ 122)))) w
theorem vc_isLower (c : Int) (w : World) (R : Ending → World → Prop) (h : VC_isLower c w R) : Calls Try.prog 95 ([Value.int
    IntKind.u8 c] : List Value).toArray w R := by
  have e : execR { P := Try.prog, loops := [], pur := pur0, tails := [], joins := [], boxes := [] } Try.f95.results.toList R (Try.f95.body.getD .skip) (initF [Value.int
    IntKind.u8
    c] (Try.f95.ntmps - ([Value.int IntKind.u8 c] : List Value).length)) w = VC_isLower c w R := by kernel_rfl
  have hb : Try.f95.body = some (Try.f95.body.getD .skip) := by kernel_rfl
  exact calls_of_exec' (P := Try.prog) (fn := Try.f95) (c := Try.f95.body.getD .skip) (args := [Value.int IntKind.u8
    c]) (w := w) (R := R) pur0_ok Try.func95 hb e h

def VC_isDigit (c : Int) (w : World) (R : Ending → World → Prop) : Prop :=
 R (Ending.returned (Value.bool (decide (c ≥ 48) && decide (c ≤ 57)))) w
theorem vc_isDigit (c : Int) (w : World) (R : Ending → World → Prop) (h : VC_isDigit c w R) : Calls Try.prog 96 ([Value.int
    IntKind.u8 c] : List Value).toArray w R := by
  have e : execR { P := Try.prog, loops := [], pur := pur0, tails := [], joins := [], boxes := [] } Try.f96.results.toList R (Try.f96.body.getD .skip) (initF [Value.int
    IntKind.u8
    c] (Try.f96.ntmps - ([Value.int IntKind.u8 c] : List Value).length)) w = VC_isDigit c w R := by kernel_rfl
  have hb : Try.f96.body = some (Try.f96.body.getD .skip) := by kernel_rfl
  exact calls_of_exec' (P := Try.prog) (fn := Try.f96) (c := Try.f96.body.getD .skip) (args := [Value.int IntKind.u8
    c]) (w := w) (R := R) pur0_ok Try.func96 hb e h

def VC_alnum (c : Int) (w : World) (R : Ending → World → Prop) : Prop :=
 bsp (decide (c ≥ 97) && decide (c ≤ 122)) (R (Ending.returned (Value.int IntKind.i64 1)) w)
 (bsp (decide (c ≥ 48) && decide (c ≤ 57)) (R (Ending.returned (Value.int IntKind.i64 2)) w)
 (R (Ending.returned (Value.int IntKind.i64 0)) w))
theorem vc_alnum (c : Int) (w : World) (R : Ending → World → Prop) (h : VC_alnum c w R) : Calls Try.prog 75 ([Value.int
    IntKind.u8 c] : List Value).toArray w R := by
  have e : execR { P := Try.prog, loops := [], pur := pur0, tails := [], joins := [], boxes := [] } Try.f75.results.toList R (Try.f75.body.getD .skip) (initF [Value.int
    IntKind.u8 c] (Try.f75.ntmps - ([Value.int IntKind.u8 c] : List Value).length)) w = VC_alnum c w R := by kernel_rfl
  have hb : Try.f75.body = some (Try.f75.body.getD .skip) := by kernel_rfl
  exact calls_of_exec' (P := Try.prog) (fn := Try.f75) (c := Try.f75.body.getD .skip) (args := [Value.int IntKind.u8
    c]) (w := w) (R := R) pur0_ok Try.func75 hb e h

def VC_char (c : Int) (w : World) (R : Ending → World → Prop) : Prop :=
 CallsS Try.prog 75 #[Value.int IntKind.u8 c] w fun (e : Ending) (w' : World) =>
 ∃ (x : Int),
 e = Ending.returned (Value.int IntKind.i64 x) ∧
 R (Ending.returned (Value.bool (decide (x > 0) || c == 43 || c == 45 || c == 95 || c == 46))) w'
theorem vc_char (c : Int) (w : World) (R : Ending → World → Prop) (h : VC_char c w R) : Calls Try.prog 64 ([Value.int
    IntKind.u8 c] : List Value).toArray w R := by
  have e : execR { P := Try.prog, loops := [], pur := pur0, tails := [], joins := [], boxes := [] } Try.f64.results.toList R (Try.f64.body.getD .skip) (initF [Value.int
    IntKind.u8 c] (Try.f64.ntmps - ([Value.int IntKind.u8 c] : List Value).length)) w = VC_char c w R := by kernel_rfl
  have hb : Try.f64.body = some (Try.f64.body.getD .skip) := by kernel_rfl
  exact calls_of_exec' (P := Try.prog) (fn := Try.f64) (c := Try.f64.body.getD .skip) (args := [Value.int IntKind.u8
    c]) (w := w) (R := R) pur0_ok Try.func64 hb e h

def VC_litChars (s : ByteArray) (w : World) (R : Ending → World → Prop) : Prop :=
 R (Ending.returned (Value.string s)) w
theorem vc_litChars (s : ByteArray) (w : World) (R : Ending → World → Prop) (h : VC_litChars s w R) : Calls Try.prog 124 ([Value.string
    s] : List Value).toArray w R := by
  have e : execR { P := Try.prog, loops := [], pur := pur0, tails := [], joins := [], boxes := [] } Try.f124.results.toList R (Try.f124.body.getD .skip) (initF [Value.string
    s] (Try.f124.ntmps - ([Value.string s] : List Value).length)) w = VC_litChars s w R := by kernel_rfl
  have hb : Try.f124.body = some (Try.f124.body.getD .skip) := by kernel_rfl
  exact calls_of_exec' (P := Try.prog) (fn := Try.f124) (c := Try.f124.body.getD .skip) (args := [Value.string
    s]) (w := w) (R := R) pur0_ok Try.func124 hb e h

def VC_classChars (s : ByteArray) (w : World) (R : Ending → World → Prop) : Prop :=
 R (Ending.returned (Value.string s)) w
theorem vc_classChars (s : ByteArray) (w : World) (R : Ending → World → Prop) (h : VC_classChars s w R) : Calls Try.prog 123 ([Value.string
    s] : List Value).toArray w R := by
  have e : execR { P := Try.prog, loops := [], pur := pur0, tails := [], joins := [], boxes := [] } Try.f123.results.toList R (Try.f123.body.getD .skip) (initF [Value.string
    s] (Try.f123.ntmps - ([Value.string s] : List Value).length)) w = VC_classChars s w R := by kernel_rfl
  have hb : Try.f123.body = some (Try.f123.body.getD .skip) := by kernel_rfl
  exact calls_of_exec' (P := Try.prog) (fn := Try.f123) (c := Try.f123.body.getD .skip) (args := [Value.string
    s]) (w := w) (R := R) pur0_ok Try.func123 hb e h

def VC_singleChars (w : World) (R : Ending → World → Prop) : Prop :=
 ∀ (n : Nat) (w1 : World),
 NewB w (Obj.cells #[] 133) n w1 →
 R
 (Ending.returned
 (Value.string
 (ByteArray.mk
 #[43, 45, 46, 48, 49, 50, 51, 52, 53, 54, 55, 56, 57, 95, 97, 98, 99, 100, 101, 102, 103, 104, 105, 106, 107, 108,
 109, 110, 111, 112, 113, 114, 115, 116, 117, 118, 119, 120, 121, 122])))
 w1
theorem vc_singleChars (w : World) (R : Ending → World → Prop) (h : VC_singleChars w R) : Calls Try.prog 121 ([Value.agg
    #[]] : List Value).toArray w R := by
  have e : execR { P := Try.prog, loops := [], pur := pur0, tails := [], joins := [], boxes := [] } Try.f121.results.toList R (Try.f121.body.getD .skip) (initF [Value.agg
    #[]] (Try.f121.ntmps - ([Value.agg #[]] : List Value).length)) w = VC_singleChars w R := by kernel_rfl
  have hb : Try.f121.body = some (Try.f121.body.getD .skip) := by kernel_rfl
  exact calls_of_exec' (P := Try.prog) (fn := Try.f121) (c := Try.f121.body.getD .skip) (args := [Value.agg
    #[]]) (w := w) (R := R) pur0_ok Try.func121 hb e h

def VC_starChars (w : World) (R : Ending → World → Prop) : Prop :=
 ∀ (n : Nat) (w1 : World),
 NewB w (Obj.cells #[] 134) n w1 →
 R
 (Ending.returned
 (Value.string
 (ByteArray.mk
 #[43, 45, 46, 48, 49, 50, 51, 52, 53, 54, 55, 56, 57, 95, 97, 98, 99, 100, 101, 102, 103, 104, 105, 106, 107, 108,
 109, 110, 111, 112, 113, 114, 115, 116, 117, 118, 119, 120, 121, 122])))
 w1
theorem vc_starChars (w : World) (R : Ending → World → Prop) (h : VC_starChars w R) : Calls Try.prog 122 ([Value.agg
    #[]] : List Value).toArray w R := by
  have e : execR { P := Try.prog, loops := [], pur := pur0, tails := [], joins := [], boxes := [] } Try.f122.results.toList R (Try.f122.body.getD .skip) (initF [Value.agg
    #[]] (Try.f122.ntmps - ([Value.agg #[]] : List Value).length)) w = VC_starChars w R := by kernel_rfl
  have hb : Try.f122.body = some (Try.f122.body.getD .skip) := by kernel_rfl
  exact calls_of_exec' (P := Try.prog) (fn := Try.f122) (c := Try.f122.body.getD .skip) (args := [Value.agg
    #[]]) (w := w) (R := R) pur0_ok Try.func122 hb e h

def VC_isStarL (s : ByteArray) (w : World) (R : Ending → World → Prop) : Prop :=
 ∀ (n : Nat) (w1 : World),
 NewB w (Obj.cells #[] 134) n w1 →
 True ∧ ∀ (w1_1 : World), PutB w1 n 0 [] w1_1 → R (Ending.returned (Value.bool false)) w1_1
theorem vc_isStarL (s : ByteArray) (w : World) (R : Ending → World → Prop) (h : VC_isStarL s w R) : Calls Try.prog 93 ([Value.iface
    139 (Value.string s)] : List Value).toArray w R := by
  have e : execR { P := Try.prog, loops := [], pur := pur0, tails := [], joins := [], boxes := [] } Try.f93.results.toList R (Try.f93.body.getD .skip) (initF [Value.iface
    139
    (Value.string
      s)] (Try.f93.ntmps - ([Value.iface 139
    (Value.string s)] : List Value).length)) w = VC_isStarL s w R := by kernel_rfl
  have hb : Try.f93.body = some (Try.f93.body.getD .skip) := by kernel_rfl
  exact calls_of_exec' (P := Try.prog) (fn := Try.f93) (c := Try.f93.body.getD .skip) (args := [Value.iface 139
    (Value.string s)]) (w := w) (R := R) pur0_ok Try.func93 hb e h

def VC_isStarC (s : ByteArray) (w : World) (R : Ending → World → Prop) : Prop :=
 ∀ (n : Nat) (w1 : World),
 NewB w (Obj.cells #[] 134) n w1 →
 True ∧ ∀ (w1_1 : World), PutB w1 n 0 [] w1_1 → R (Ending.returned (Value.bool false)) w1_1
theorem vc_isStarC (s : ByteArray) (w : World) (R : Ending → World → Prop) (h : VC_isStarC s w R) : Calls Try.prog 93 ([Value.iface
    135 (Value.string s)] : List Value).toArray w R := by
  have e : execR { P := Try.prog, loops := [], pur := pur0, tails := [], joins := [], boxes := [] } Try.f93.results.toList R (Try.f93.body.getD .skip) (initF [Value.iface
    135
    (Value.string
      s)] (Try.f93.ntmps - ([Value.iface 135
    (Value.string s)] : List Value).length)) w = VC_isStarC s w R := by kernel_rfl
  have hb : Try.f93.body = some (Try.f93.body.getD .skip) := by kernel_rfl
  exact calls_of_exec' (P := Try.prog) (fn := Try.f93) (c := Try.f93.body.getD .skip) (args := [Value.iface 135
    (Value.string s)]) (w := w) (R := R) pur0_ok Try.func93 hb e h

def VC_isStarQ (w : World) (R : Ending → World → Prop) : Prop :=
 ∀ (n : Nat) (w1 : World),
 NewB w (Obj.cells #[] 134) n w1 →
 True ∧ ∀ (w1_1 : World), PutB w1 n 0 [] w1_1 → R (Ending.returned (Value.bool false)) w1_1
theorem vc_isStarQ (w : World) (R : Ending → World → Prop) (h : VC_isStarQ w R) : Calls Try.prog 93 ([Value.iface 133
    (Value.agg #[])] : List Value).toArray w R := by
  have e : execR { P := Try.prog, loops := [], pur := pur0, tails := [], joins := [], boxes := [] } Try.f93.results.toList R (Try.f93.body.getD .skip) (initF [Value.iface
    133
    (Value.agg
      #[])] (Try.f93.ntmps - ([Value.iface 133
    (Value.agg #[])] : List Value).length)) w = VC_isStarQ w R := by kernel_rfl
  have hb : Try.f93.body = some (Try.f93.body.getD .skip) := by kernel_rfl
  exact calls_of_exec' (P := Try.prog) (fn := Try.f93) (c := Try.f93.body.getD .skip) (args := [Value.iface 133
    (Value.agg #[])]) (w := w) (R := R) pur0_ok Try.func93 hb e h

def VC_isStarS (w : World) (R : Ending → World → Prop) : Prop :=
 ∀ (n : Nat) (w1 : World),
 NewB w (Obj.cells #[] 134) n w1 →
 True ∧ ∀ (w1_1 : World), PutB w1 n 0 [] w1_1 → R (Ending.returned (Value.bool true)) w1_1
theorem vc_isStarS (w : World) (R : Ending → World → Prop) (h : VC_isStarS w R) : Calls Try.prog 93 ([Value.iface 134
    (Value.agg #[])] : List Value).toArray w R := by
  have e : execR { P := Try.prog, loops := [], pur := pur0, tails := [], joins := [], boxes := [] } Try.f93.results.toList R (Try.f93.body.getD .skip) (initF [Value.iface
    134
    (Value.agg
      #[])] (Try.f93.ntmps - ([Value.iface 134
    (Value.agg #[])] : List Value).length)) w = VC_isStarS w R := by kernel_rfl
  have hb : Try.f93.body = some (Try.f93.body.getD .skip) := by kernel_rfl
  exact calls_of_exec' (P := Try.prog) (fn := Try.f93) (c := Try.f93.body.getD .skip) (args := [Value.iface 134
    (Value.agg #[])]) (w := w) (R := R) pur0_ok Try.func93 hb e h

def VC_standsL (s : ByteArray) (c : Int) (w : World) (R : Ending → World → Prop) : Prop :=
 CallsS Try.prog 124 #[Value.string s] w fun (e : Ending) (w' : World) =>
 ∃ (x : ByteArray),
 e = Ending.returned (Value.string x) ∧
 CallsS Try.prog 69 #[Value.string x, Value.int IntKind.u8 c] w' fun (e : Ending) (w' : World) =>
 ∃ (x : Int), e = Ending.returned (Value.int IntKind.i64 x) ∧ R (Ending.returned (Value.bool (decide (x ≥ 0)))) w'
theorem vc_standsL (s : ByteArray) (c : Int) (w : World) (R : Ending → World → Prop) (h : VC_standsL s c w R) : Calls Try.prog 92 ([Value.iface
    139 (Value.string s),
  Value.int IntKind.u8 c] : List Value).toArray w R := by
  have e : execR { P := Try.prog, loops := [], pur := pur0, tails := [], joins := [], boxes := [] } Try.f92.results.toList R (Try.f92.body.getD .skip) (initF [Value.iface
    139 (Value.string s),
  Value.int IntKind.u8
    c] (Try.f92.ntmps - ([Value.iface 139 (Value.string s),
  Value.int IntKind.u8 c] : List Value).length)) w = VC_standsL s c w R := by kernel_rfl
  have hb : Try.f92.body = some (Try.f92.body.getD .skip) := by kernel_rfl
  exact calls_of_exec' (P := Try.prog) (fn := Try.f92) (c := Try.f92.body.getD .skip) (args := [Value.iface 139
    (Value.string s),
  Value.int IntKind.u8 c]) (w := w) (R := R) pur0_ok Try.func92 hb e h

def VC_standsC (s : ByteArray) (c : Int) (w : World) (R : Ending → World → Prop) : Prop :=
 CallsS Try.prog 123 #[Value.string s] w fun (e : Ending) (w' : World) =>
 ∃ (x : ByteArray),
 e = Ending.returned (Value.string x) ∧
 CallsS Try.prog 69 #[Value.string x, Value.int IntKind.u8 c] w' fun (e : Ending) (w' : World) =>
 ∃ (x : Int), e = Ending.returned (Value.int IntKind.i64 x) ∧ R (Ending.returned (Value.bool (decide (x ≥ 0)))) w'
theorem vc_standsC (s : ByteArray) (c : Int) (w : World) (R : Ending → World → Prop) (h : VC_standsC s c w R) : Calls Try.prog 92 ([Value.iface
    135 (Value.string s),
  Value.int IntKind.u8 c] : List Value).toArray w R := by
  have e : execR { P := Try.prog, loops := [], pur := pur0, tails := [], joins := [], boxes := [] } Try.f92.results.toList R (Try.f92.body.getD .skip) (initF [Value.iface
    135 (Value.string s),
  Value.int IntKind.u8
    c] (Try.f92.ntmps - ([Value.iface 135 (Value.string s),
  Value.int IntKind.u8 c] : List Value).length)) w = VC_standsC s c w R := by kernel_rfl
  have hb : Try.f92.body = some (Try.f92.body.getD .skip) := by kernel_rfl
  exact calls_of_exec' (P := Try.prog) (fn := Try.f92) (c := Try.f92.body.getD .skip) (args := [Value.iface 135
    (Value.string s),
  Value.int IntKind.u8 c]) (w := w) (R := R) pur0_ok Try.func92 hb e h

def VC_standsQ (c : Int) (w : World) (R : Ending → World → Prop) : Prop :=
 CallsS Try.prog 121 #[Value.agg #[]] w fun (e : Ending) (w' : World) =>
 ∃ (x : ByteArray),
 e = Ending.returned (Value.string x) ∧
 CallsS Try.prog 69 #[Value.string x, Value.int IntKind.u8 c] w' fun (e : Ending) (w' : World) =>
 ∃ (x : Int), e = Ending.returned (Value.int IntKind.i64 x) ∧ R (Ending.returned (Value.bool (decide (x ≥ 0)))) w'
theorem vc_standsQ (c : Int) (w : World) (R : Ending → World → Prop) (h : VC_standsQ c w R) : Calls Try.prog 92 ([Value.iface
    133 (Value.agg #[]),
  Value.int IntKind.u8 c] : List Value).toArray w R := by
  have e : execR { P := Try.prog, loops := [], pur := pur0, tails := [], joins := [], boxes := [] } Try.f92.results.toList R (Try.f92.body.getD .skip) (initF [Value.iface
    133 (Value.agg #[]),
  Value.int IntKind.u8
    c] (Try.f92.ntmps - ([Value.iface 133 (Value.agg #[]),
  Value.int IntKind.u8 c] : List Value).length)) w = VC_standsQ c w R := by kernel_rfl
  have hb : Try.f92.body = some (Try.f92.body.getD .skip) := by kernel_rfl
  exact calls_of_exec' (P := Try.prog) (fn := Try.f92) (c := Try.f92.body.getD .skip) (args := [Value.iface 133
    (Value.agg #[]),
  Value.int IntKind.u8 c]) (w := w) (R := R) pur0_ok Try.func92 hb e h

def VC_standsS (c : Int) (w : World) (R : Ending → World → Prop) : Prop :=
 CallsS Try.prog 122 #[Value.agg #[]] w fun (e : Ending) (w' : World) =>
 ∃ (x : ByteArray),
 e = Ending.returned (Value.string x) ∧
 CallsS Try.prog 69 #[Value.string x, Value.int IntKind.u8 c] w' fun (e : Ending) (w' : World) =>
 ∃ (x : Int), e = Ending.returned (Value.int IntKind.i64 x) ∧ R (Ending.returned (Value.bool (decide (x ≥ 0)))) w'
theorem vc_standsS (c : Int) (w : World) (R : Ending → World → Prop) (h : VC_standsS c w R) : Calls Try.prog 92 ([Value.iface
    134 (Value.agg #[]),
  Value.int IntKind.u8 c] : List Value).toArray w R := by
  have e : execR { P := Try.prog, loops := [], pur := pur0, tails := [], joins := [], boxes := [] } Try.f92.results.toList R (Try.f92.body.getD .skip) (initF [Value.iface
    134 (Value.agg #[]),
  Value.int IntKind.u8
    c] (Try.f92.ntmps - ([Value.iface 134 (Value.agg #[]),
  Value.int IntKind.u8 c] : List Value).length)) w = VC_standsS c w R := by kernel_rfl
  have hb : Try.f92.body = some (Try.f92.body.getD .skip) := by kernel_rfl
  exact calls_of_exec' (P := Try.prog) (fn := Try.f92) (c := Try.f92.body.getD .skip) (args := [Value.iface 134
    (Value.agg #[]),
  Value.int IntKind.u8 c]) (w := w) (R := R) pur0_ok Try.func92 hb e h

end Go.Proofs.Ytmjanmffnblcoaa

/-
  DERIVED: THE SHELF's CONTRACTS AT THIS DUMP, IN PLAIN WORDS (tools/lay-plain.mjs out of 'TryShelf.lean', which tools/lay-shelf.mjs wrote): THE SAME DECLARATIONS UNDER THE SAME NAMES: 'import', 'namespace', 'open', 'def', 'theorem' AND NOTHING ELSE: no command of the shelf's: FOR A HAND-IN. Each laying: the table of numbers ('.._ren') and one theorem, a field a fact of the dump's own or the kernel's comparison; each contract: ONE APPLICATION.
-/
namespace Go.Proofs
open Go.Shelf
def Try.lays137_ren : Go.Shelf.Ren := ⟨fun | 137 => 69 | 217 => 79 | 266 => 97 | n => n, fun | 9 => 9 | 5 => 5 | 3 => 3 | n => n, fun | n => n⟩
theorem Try.lays137 : Go.Proofs.Lays.n137 Try.prog Try.lays137_ren := {
  mixed := by kernel_rfl
  f137 := Try.func69.trans (congrArg some (by kernel_rfl))
  f217 := Try.func79.trans (congrArg some (by kernel_rfl))
  f266 := Try.func97.trans (congrArg some (by kernel_rfl))
  t3 := Try.underlying3
  a3 := Try.isAgg3
  z3 := Try.sizeOf3
  v3 := Try.zeroValue3
  t5 := Try.underlying5
  a5 := Try.isAgg5
  z5 := Try.sizeOf5
  v5 := Try.zeroValue5
  t9 := Try.underlying9
  a9 := Try.isAgg9
  z9 := Try.sizeOf9
  v9 := Try.zeroValue9 }
open Go.RowKit in
/-- strings.IndexByte: "IndexByte returns the index of the first instance of c in s, or -1 if c is not present in s.": IT RETURNS 'Lib.indexByte s c'; the world is as it was. (LAID: no walk: one application.) -/
theorem Try.strings_IndexByte (s : ByteArray) (c : Int) (w : World) :
    Calls Try.prog 69 #[.string s, .int .u8 c] w fun e w' => e = .returned (.int .i64 (Lib.indexByte s.data.toList c.toNat.toUInt8)) ∧ w' = w := Any.strings_IndexByte Try.lays137 s c w
def Try.lays217_ren : Go.Shelf.Ren := ⟨fun | 217 => 79 | 266 => 97 | n => n, fun | 9 => 9 | 5 => 5 | 3 => 3 | n => n, fun | n => n⟩
theorem Try.lays217 : Go.Proofs.Lays.n217 Try.prog Try.lays217_ren := {
  mixed := by kernel_rfl
  f217 := Try.func79.trans (congrArg some (by kernel_rfl))
  f266 := Try.func97.trans (congrArg some (by kernel_rfl))
  t3 := Try.underlying3
  a3 := Try.isAgg3
  z3 := Try.sizeOf3
  v3 := Try.zeroValue3
  t5 := Try.underlying5
  a5 := Try.isAgg5
  z5 := Try.sizeOf5
  v5 := Try.zeroValue5
  t9 := Try.underlying9
  a9 := Try.isAgg9
  z9 := Try.sizeOf9
  v9 := Try.zeroValue9 }
open Go.RowKit Go.Lib in
/-- internal/stringslite.IndexByte (what strings.IndexByte calls): IT RETURNS 'Lib.indexByte s c'; the world is as it was. (LAID: no walk: one application.) -/
theorem Try.stringslite_IndexByte (s : ByteArray) (c : Int) (w : World) :
    Calls Try.prog 79 #[.string s, .int .u8 c] w fun e w' => e = .returned (.int .i64 (Lib.indexByte s.data.toList c.toNat.toUInt8)) ∧ w' = w := Any.stringslite_IndexByte Try.lays217 s c w
def Try.lays206_ren : Go.Shelf.Ren := ⟨fun | 206 => 94 | n => n, fun | 9 => 9 | 4 => 4 | 3 => 3 | n => n, fun | n => n⟩
theorem Try.lays206 : Go.Proofs.Lays.n206 Try.prog Try.lays206_ren := {
  mixed := by kernel_rfl
  f206 := Try.func94.trans (congrArg some (by kernel_rfl))
  t3 := Try.underlying3
  a3 := Try.isAgg3
  z3 := Try.sizeOf3
  v3 := Try.zeroValue3
  t4 := Try.underlying4
  a4 := Try.isAgg4
  z4 := Try.sizeOf4
  v4 := Try.zeroValue4
  t9 := Try.underlying9
  a9 := Try.isAgg9
  z9 := Try.sizeOf9
  v9 := Try.zeroValue9 }
open Go.RowKit Go.Lib in
/-- internal/stringslite.HasPrefix (what strings.HasPrefix calls). (LAID: no walk: one application.) -/
theorem Try.stringslite_HasPrefix (s p : ByteArray) (w : World) :
    Calls Try.prog 94 #[.string s, .string p] w fun e w' => e = .returned (.bool (Lib.hasPrefix s.data.toList p.data.toList)) ∧ w' = w := Any.stringslite_HasPrefix Try.lays206 s p w
def Try.lays99_ren : Go.Shelf.Ren := ⟨fun | 99 => 77 | 206 => 94 | n => n, fun | 9 => 9 | 4 => 4 | 3 => 3 | n => n, fun | n => n⟩
theorem Try.lays99 : Go.Proofs.Lays.n99 Try.prog Try.lays99_ren := {
  mixed := by kernel_rfl
  f99 := Try.func77.trans (congrArg some (by kernel_rfl))
  f206 := Try.func94.trans (congrArg some (by kernel_rfl))
  t3 := Try.underlying3
  a3 := Try.isAgg3
  z3 := Try.sizeOf3
  v3 := Try.zeroValue3
  t4 := Try.underlying4
  a4 := Try.isAgg4
  z4 := Try.sizeOf4
  v4 := Try.zeroValue4
  t9 := Try.underlying9
  a9 := Try.isAgg9
  z9 := Try.sizeOf9
  v9 := Try.zeroValue9 }
open Go.RowKit Go.Lib in
/-- strings.HasPrefix: "HasPrefix reports whether the string s begins with prefix.": IT RETURNS 'Lib.hasPrefix s prefix'; the world is as it was. (LAID: no walk: one application.) -/
theorem Try.strings_HasPrefix (s p : ByteArray) (w : World) :
    Calls Try.prog 77 #[.string s, .string p] w fun e w' => e = .returned (.bool (Lib.hasPrefix s.data.toList p.data.toList)) ∧ w' = w := Any.strings_HasPrefix Try.lays99 s p w
def Try.laysNm216_ren : Go.Shelf.Ren := ⟨fun | 16 => 43 | n => n, fun | 24 => 39 | 9 => 9 | 4 => 4 | n => n, fun | n => n⟩
theorem Try.laysNm216 : Go.Proofs.Lays2.n16 Try.prog Try.laysNm216_ren := {
  mixed := by kernel_rfl
  f16 := Try.func43.trans (congrArg some (by kernel_rfl))
  t4 := Try.underlying4
  a4 := Try.isAgg4
  z4 := Try.sizeOf4
  v4 := Try.zeroValue4
  t9 := Try.underlying9
  a9 := Try.isAgg9
  z9 := Try.sizeOf9
  v9 := Try.zeroValue9
  t24 := Try.underlying39
  a24 := Try.isAgg39
  z24 := Try.sizeOf39
  v24 := Try.zeroValue39
  i9 := by kernel_rfl }
open Go.RowKit Go.Lib in
/-- slices.Clone at []string: "Clone returns a copy of the slice. The elements are copied using assignment, so this is a shallow clone. The result may have additional unused capacity. The result preserves the nilness of s.": OF A SLICE THAT IS NOT nil IT RETURNS A SLICE THAT IS NOT nil, OF THE SAME ELEMENTS, IN MEMORY OF THE CALL's OWN: in the how-to's words (6f): 'w'.ownsRow B e 1 v' n cells': v' begins at the head of a row among the blocks from B on (B: the heap's size at the call), not frozen, whose first cells are the elements · 'Below B w w'': below B all is as it was. The capacity is whatever the run-time gives. 'zs': what the cells behind the slice's address hold; 'zs.take n': its elements. (LAID: no walk: one application.) -/
theorem Try.slices_Clone_string (b off n c : Nat) (zs : List ByteArray) (w : World) (hz : n ≤ zs.length) (hbig : n * 16 ≤ 140737488355328) (hc : ∀ j, j < zs.length → w.cell? ⟨b, off + j, none⟩ = some (.string (zs.getD j ByteArray.empty))) :
    Calls Try.prog 43 #[.slice (some ⟨b, off, none⟩) n c] w fun e w' => ∃ v', e = .returned v' ∧ w'.ownsRow w.heap.size 9 1 v' n ((zs.take n).map (Value.string)) ∧ v' ≠ .slice none 0 0 ∧ Below w.heap.size w w' := Any.slices_Clone_string Try.laysNm216 b off n c zs w hz hbig hc
open Go.RowKit Go.Lib in
/-- The same at nil: nil comes back; the world is as it was. (LAID: no walk: one application.) -/
theorem Try.slices_Clone_string_nil (n c : Nat) (w : World) :
    Calls Try.prog 43 #[.slice none n c] w fun e w' => e = .returned (.slice none 0 0) ∧ w' = w := Any.slices_Clone_string_nil Try.laysNm216 n c w
open Go.RowKit Go.Lib in
/-- The same at a slice of length 0 that is not nil, WHATEVER ITS ADDRESS (no cell is asked for): a slice that is not nil and owns nothing comes back. (LAID: no walk: one application.) -/
theorem Try.slices_Clone_string_zero (a : Addr) (c : Nat) (w : World) :
    Calls Try.prog 43 #[.slice (some a) 0 c] w fun e w' => ∃ v', e = .returned v' ∧ w'.ownsRow w.heap.size 9 1 v' 0 [] ∧ v' ≠ .slice none 0 0 ∧ Below w.heap.size w w' := Any.slices_Clone_string_zero Try.laysNm216 a c w
end Go.Proofs

/- Functions without an effect (IsLower, IsDigit, isPermitted, alnum, Char, IndexByte, HasPrefix), and isStar, stands,, by plain functions. No condition. -/
namespace Go.Proofs.Ytmjanmffnblcoaa
open Go.RowKit

def lowerB (c : Int) : Bool := decide (97 ≤ c) && decide (c ≤ 122)
def digitB (c : Int) : Bool := decide (48 ≤ c) && decide (c ≤ 57)
def permB (c : Int) : Bool := lowerB c || digitB c || c == 45 || c == 46
def alnumI (c : Int) : Int := if lowerB c = true then 1 else if digitB c = true then 2 else 0
def charB (c : Int) : Bool := lowerB c || digitB c || c == 43 || c == 45 || c == 95 || c == 46
theorem isLower_any (c : Int) (w : World) : Calls Try.prog 95 #[.int .u8 c] w fun e w' => e = .returned (.bool (lowerB c)) ∧ w' = w := vc_isLower c w _ ⟨rfl, rfl⟩
theorem isDigit_any (c : Int) (w : World) : Calls Try.prog 96 #[.int .u8 c] w fun e w' => e = .returned (.bool (digitB c)) ∧ w' = w := vc_isDigit c w _ ⟨rfl, rfl⟩
theorem alnum_any (c : Int) (w : World) : Calls Try.prog 75 #[.int .u8 c] w fun e w' => e = .returned (.int .i64 (alnumI c)) ∧ w' = w := by
  refine vc_alnum c w _ (bsp_intro (fun h => ?_) fun h => bsp_intro (fun h1 => ?_) fun h1 => ?_)
  · have h : lowerB c = true := h
    exact ⟨by simp [alnumI, h], rfl⟩
  · have h : lowerB c = false := h
    have h1 : digitB c = true := h1
    exact ⟨by simp [alnumI, h, h1], rfl⟩
  · have h : lowerB c = false := h
    have h1 : digitB c = false := h1
    exact ⟨by simp [alnumI, h, h1], rfl⟩
theorem alnumI_pos (c : Int) : decide (alnumI c > 0) = (lowerB c || digitB c) := by
  unfold alnumI; cases lowerB c <;> cases digitB c <;> simp
theorem char_any (c : Int) (w : World) : Calls Try.prog 64 #[.int .u8 c] w fun e w' => e = .returned (.bool (charB c)) ∧ w' = w := by
  refine vc_char c w _ ⟨(alnum_any c w).mono fun e w' ⟨he, hw⟩ => ⟨_, he, ?_, hw⟩⟩
  rw [alnumI_pos]
  simp [charB]

/-- An element of a pattern. -/
inductive El where
  | lit (s : ByteArray)
  | one
  | star
  | cls (s : ByteArray)
/-- '+-.0123456789_abcdefghijklmnopqrstuvwxyz'. -/
def nameBytes : ByteArray := ⟨#[43, 45, 46, 48, 49, 50, 51, 52, 53, 54, 55, 56, 57, 95, 97, 98, 99, 100, 101, 102, 103, 104, 105, 106, 107, 108, 109, 110, 111, 112, 113, 114, 115, 116, 117, 118, 119, 120, 121, 122]⟩
def El.val : El → Value
  | .lit s => .iface 139 (.string s)
  | .one => .iface 133 (.agg #[])
  | .star => .iface 134 (.agg #[])
  | .cls s => .iface 135 (.string s)
def El.chars : El → ByteArray
  | .lit s => s
  | .one => nameBytes
  | .star => nameBytes
  | .cls s => s
def El.isStar : El → Bool
  | .star => true
  | _ => false
def hasB (s : ByteArray) (c : Int) : Bool := s.data.toList.contains c.toNat.toUInt8
theorem indexByte_nonneg (l : List UInt8) (c : UInt8) : decide (0 ≤ Lib.indexByte l c) = l.contains c := by
  induction l with
  | nil => rfl
  | cons b r ih =>
    have hb : Lib.indexByte (b :: r) c = if b == c then 0 else if Lib.indexByte r c == -1 then -1 else Lib.indexByte r c + 1 := rfl
    rw [hb, List.contains_cons]
    by_cases h : b = c
    · subst h; simp
    · have h1 : (b == c) = false := by simpa using h
      have h2 : (c == b) = false := by simpa using fun e => h e.symm
      rw [h1, h2]
      simp only [Bool.false_or]
      rw [← ih]
      have hge : -1 ≤ Lib.indexByte r c := by
        clear ih hb
        induction r with
        | nil => exact Int.le_refl _
        | cons x r ih => 
          have hx : Lib.indexByte (x :: r) c = if x == c then 0 else if Lib.indexByte r c == -1 then -1 else Lib.indexByte r c + 1 := rfl
          rw [hx]; split
          · decide
          · split
            · decide
            · omega
      by_cases h3 : Lib.indexByte r c = -1
      · simp [h3]
      · have : (Lib.indexByte r c == -1) = false := by simpa using h3
        rw [this]
        apply decide_eq_decide.2
        simp only [Bool.false_eq_true, if_false]
        omega
theorem indexByte_any (s : ByteArray) (c : Int) (w : World) : Calls Try.prog 69 #[.string s, .int .u8 c] w fun e w' => e = .returned (.int .i64 (Lib.indexByte s.data.toList c.toNat.toUInt8)) ∧ w' = w := Try.strings_IndexByte s c w
theorem isStar_any (x : El) (w : World) : Calls Try.prog 93 #[x.val] w fun e w' => e = .returned (.bool x.isStar) ∧ K0 w w' := by
  cases x with
  | lit s => exact vc_isStarL s w _ fun n w1 hn => ⟨trivial, fun w2 hp => ⟨rfl, (hn.kp _).trans (by rw [hp.hw]; exact .refl _ _)⟩⟩
  | cls s => exact vc_isStarC s w _ fun n w1 hn => ⟨trivial, fun w2 hp => ⟨rfl, (hn.kp _).trans (by rw [hp.hw]; exact .refl _ _)⟩⟩
  | one => exact vc_isStarQ w _ fun n w1 hn => ⟨trivial, fun w2 hp => ⟨rfl, (hn.kp _).trans (by rw [hp.hw]; exact .refl _ _)⟩⟩
  | star => exact vc_isStarS w _ fun n w1 hn => ⟨trivial, fun w2 hp => ⟨rfl, (hn.kp _).trans (by rw [hp.hw]; exact .refl _ _)⟩⟩
theorem stands_any (x : El) (c : Int) (w : World) : Calls Try.prog 92 #[x.val, .int .u8 c] w fun e w' => e = .returned (.bool (hasB x.chars c)) ∧ K0 w w' := by
  have key : ∀ (s : ByteArray) (w1 : World), K0 w w1 → CallsS Try.prog 69 #[.string s, .int .u8 c] w1 fun e w' => ∃ x : Int, e = .returned (.int .i64 x) ∧ (Ending.returned (.bool (decide (x ≥ 0))) = .returned (.bool (hasB s c)) ∧ K0 w w') := fun s w1 h1 =>
    ⟨(indexByte_any s c w1).mono fun e w' ⟨he, hw⟩ => ⟨_, he, by rw [show decide (Lib.indexByte s.data.toList c.toNat.toUInt8 ≥ 0) = hasB s c from indexByte_nonneg _ _], hw ▸ h1⟩⟩
  cases x with
  | lit s => exact vc_standsL s c w _ ⟨(vc_litChars s w (fun e w' => e = .returned (.string s) ∧ K0 w w') ⟨rfl, .refl _ _⟩).mono fun e w' ⟨he, hw⟩ => ⟨_, he, key s w' hw⟩⟩
  | cls s => exact vc_standsC s c w _ ⟨(vc_classChars s w (fun e w' => e = .returned (.string s) ∧ K0 w w') ⟨rfl, .refl _ _⟩).mono fun e w' ⟨he, hw⟩ => ⟨_, he, key s w' hw⟩⟩
  | one => exact vc_standsQ c w _ ⟨(vc_singleChars w (fun e w' => e = .returned (.string nameBytes) ∧ K0 w w') fun n w1 hn => ⟨rfl, hn.kp _⟩).mono fun e w' ⟨he, hw⟩ => ⟨_, he, key _ w' hw⟩⟩
  | star => exact vc_standsS c w _ ⟨(vc_starChars w (fun e w' => e = .returned (.string nameBytes) ∧ K0 w w') fun n w1 hn => ⟨rfl, hn.kp _⟩).mono fun e w' ⟨he, hw⟩ => ⟨_, he, key _ w' hw⟩⟩

def pur1 (f : FuncId) (args : List Value) : Option (Option Prop × Value) :=
  match f with
  | 95 => (match args with | [.int .u8 c] => some (none, .bool (lowerB c)) | _ => none)
  | 96 => (match args with | [.int .u8 c] => some (none, .bool (digitB c)) | _ => none)
  | 75 => (match args with | [.int .u8 c] => some (none, .int .i64 (alnumI c)) | _ => none)
  | 64 => (match args with | [.int .u8 c] => some (none, .bool (charB c)) | _ => none)
  | 69 => (match args with | [.string s, .int .u8 c] => some (none, .int .i64 (Lib.indexByte s.data.toList c.toNat.toUInt8)) | _ => none)
  | 77 => (match args with | [.string s, .string p] => some (none, .bool (Lib.hasPrefix s.data.toList p.data.toList)) | _ => none)
  | _ => none
theorem pur1_ok {l : List (Nat × List (Nat × Ck))} {t : List (Nat × Nat)} {j : List (Nat × List (Nat × Ck))} {b : List (Nat × Unit)} : PurOK { P := Try.prog, loops := l, pur := pur1, tails := t, joins := j, boxes := b } := fun f args p v h _ => by
  have key : ∀ (fn : Func), Try.prog.funcs[f]? = some fn → (fn.name == "runtime.NumGoroutine") = false → fn.body.isNone = false → ∃ fn, Try.prog.funcs[f]? = some fn ∧ (fn.name == "runtime.NumGoroutine") = false ∧ fn.body.isNone = false := fun fn h1 h2 h3 => ⟨fn, h1, h2, h3⟩
  simp only [pur1] at h
  split at h
  · split at h
    · simp at h; obtain ⟨rfl, rfl⟩ := h; exact ⟨fun w => isLower_any _ w, key _ Try.func95 (by decide) (by decide)⟩
    · simp at h
  · split at h
    · simp at h; obtain ⟨rfl, rfl⟩ := h; exact ⟨fun w => isDigit_any _ w, key _ Try.func96 (by decide) (by decide)⟩
    · simp at h
  · split at h
    · simp at h; obtain ⟨rfl, rfl⟩ := h; exact ⟨fun w => alnum_any _ w, key _ Try.func75 (by decide) (by decide)⟩
    · simp at h
  · split at h
    · simp at h; obtain ⟨rfl, rfl⟩ := h; exact ⟨fun w => char_any _ w, key _ Try.func64 (by decide) (by decide)⟩
    · simp at h
  · split at h
    · simp at h; obtain ⟨rfl, rfl⟩ := h; exact ⟨fun w => indexByte_any _ _ w, key _ Try.func69 (by decide) (by decide)⟩
    · simp at h
  · split at h
    · simp at h; obtain ⟨rfl, rfl⟩ := h; exact ⟨fun w => Try.strings_HasPrefix _ _ w, key _ Try.func77 (by decide) (by decide)⟩
    · simp at h
  · simp at h

end Go.Proofs.Ytmjanmffnblcoaa

/- Plain functions on texts (no program in sight): the tests of characters, the errors of a site's name, searches for a first index. No condition. -/
namespace Go.Proofs.Ytmjanmffnblcoaa

theorem at8_lt (s : ByteArray) (k : Nat) (h : k < s.size) : at8 s k = (s[k].toNat : Int) := by simp [at8, h]
theorem at8_bd (s : ByteArray) (k : Nat) : 0 ≤ at8 s k ∧ at8 s k ≤ 255 := by
  unfold at8
  split
  · have := s[k].toNat_lt; omega
  · omega

theorem find_some (p : Nat → Bool) (n k : Nat) (hk : k < n) (h : ∀ j, j < k → p j = false) (hp : p k = true) : (List.range n).find? p = some k := by
  rw [List.find?_range_eq_some]
  exact ⟨hp, List.mem_range.2 hk, fun j hj => by simp [h j hj]⟩
theorem find_none (p : Nat → Bool) (n : Nat) (h : ∀ j, j < n → p j = false) : (List.range n).find? p = none := by
  rw [List.find?_range_eq_none]
  exact fun j hj => by simp [h j hj]

/-- A character of a site's name is at a place where it can't stand. -/
def misB (s : ByteArray) (i : Nat) : Bool :=
  (i == 0 && !lowerB (at8 s i)) || (decide (0 < i) && at8 s i == 46 && at8 s (i - 1) == 46) || (i + 1 == s.size && (at8 s i == 45 || at8 s i == 46))
/-- The offset of the first error of a site's name and its kind. -/
def siteS (s : ByteArray) : Int × Int :=
  if s.size = 0 then (0, 4) else if 30 < s.size then (30, 5) else
  match (List.range s.size).find? (fun i => !permB (at8 s i)) with
  | some i => ((i : Int), 6)
  | none => match (List.range s.size).find? (misB s) with
    | some i => ((i : Int), 12)
    | none => (0, 0)

theorem siteS_byte (s : ByteArray) (k : Nat) (h0 : ¬ s.size = 0) (h1 : ¬ 30 < s.size) (hk : k < s.size) (h : ∀ j, j < k → permB (at8 s j) = true) (hp : permB (at8 s k) = false) : siteS s = ((k : Int), 6) := by
  have := find_some (fun i => !permB (at8 s i)) s.size k hk (fun j hj => by simp [h j hj]) (by simp [hp])
  simp [siteS, h0, h1, this]
theorem siteS_name (s : ByteArray) (k : Nat) (h0 : ¬ s.size = 0) (h1 : ¬ 30 < s.size) (h : ∀ j, j < s.size → permB (at8 s j) = true) (hk : k < s.size) (hm : ∀ j, j < k → misB s j = false) (hp : misB s k = true) : siteS s = ((k : Int), 12) := by
  have a := find_none (fun i => !permB (at8 s i)) s.size (fun j hj => by simp [h j hj])
  have b := find_some (misB s) s.size k hk hm hp
  simp [siteS, h0, h1, a, b]
theorem siteS_ok (s : ByteArray) (h0 : ¬ s.size = 0) (h1 : ¬ 30 < s.size) (h : ∀ j, j < s.size → permB (at8 s j) = true) (hm : ∀ j, j < s.size → misB s j = false) : siteS s = (0, 0) := by
  have a := find_none (fun i => !permB (at8 s i)) s.size (fun j hj => by simp [h j hj])
  have b := find_none (misB s) s.size hm
  simp [siteS, h0, h1, a, b]

/-- A word is a distribution. -/
def distB (s : ByteArray) : Bool := decide (0 < s.size) && decide (s.size ≤ 20) && (List.range s.size).all (fun i => lowerB (at8 s i) || digitB (at8 s i) || at8 s i == 45)

theorem toList_nil (s : ByteArray) : (s.toList == []) = decide (s.size = 0) := by
  have h : s.toList.length = s.size := by rw [ByteArray.toList_eq]; exact s.data.length_toList
  cases hs : s.toList with
  | nil => rw [hs] at h; have h : s.size = 0 := h.symm; rw [h]; rfl
  | cons a r =>
    rw [hs] at h
    have h : s.size = r.length + 1 := h.symm
    have : ¬ s.size = 0 := by omega
    rw [decide_eq_false this]
    rfl
/-- A loop that counts a slot from 0 up to n. -/
theorem count1 {w : World} {F : (List Value → World → Prop) → (List Value → World → Nat) → Int → World → Prop} (n : Nat) (hn : (n : Int) ≤ 9223372036854775807) (J : Nat → World → Prop) (h0 : J 0 w)
    (step : ∀ (I : List Value → World → Prop) (m : List Value → World → Nat) (k : Nat) (w' : World), k ≤ n → J k w' →
      (k < n → ∀ w'', J (k + 1) w'' → I [.int .i64 (IntKind.i64.wrap (k + 1))] w'' ∧ m [.int .i64 (IntKind.i64.wrap (k + 1))] w'' < m [.int .i64 k] w') → F I m k w') :
    ∃ (I : List Value → World → Prop) (m : List Value → World → Nat), I [.int .i64 0] w ∧ ∀ (x : Int) (w' : World), I [.int .i64 x] w' → F I m x w' := by
  refine ⟨fun vs w' => ∃ k : Nat, vs = [.int .i64 k] ∧ k ≤ n ∧ J k w', fun vs _ => (match vs with | [.int _ x] => n - x.toNat | _ => 0), ⟨0, rfl, by omega, h0⟩, fun x w' ⟨k, hv, hk, hJ⟩ => ?_⟩
  have hx : x = (k : Int) := by simpa using hv
  subst hx
  refine step _ _ k w' hk hJ (fun hlt w'' hJ' => ?_)
  rw [show IntKind.i64.wrap ((k : Int) + 1) = ((k + 1 : Nat) : Int) from by rw [wr64 (by omega) (by omega)]; omega]
  exact ⟨⟨k + 1, rfl, by omega, hJ'⟩, by simp; omega⟩

end Go.Proofs.Ytmjanmffnblcoaa

/- Rows of elements that can be read. Generic: no program, no condition. -/
namespace Go.Proofs.Ytmjanmffnblcoaa
open Go.RowKit

/-- Elements that lie one behind the other. -/
def RowA {α : Type} (f : α → List Value) (L : Nat) (w : World) (p : Option Addr) (l : List α) : Prop := ∀ k y, l[k]? = some y → ∃ b o, p = some ⟨b, o, none⟩ ∧ AtL w b (o + k * L) (f y)
section
variable {α : Type} {f : α → List Value} {L : Nat} {w w' : World} {p : Option Addr} {l : List α}
theorem RowA.k0 (h : RowA f L w p l) (hk : K0 w w') : RowA f L w' p l := fun k y hy => by
  obtain ⟨b, o, h1, h2⟩ := h k y hy
  exact ⟨b, o, h1, h2.k0 hk⟩
theorem RowA.get (h : RowA f L w p l) {k : Nat} (hk : k < l.length) : ∃ y b o, l[k]? = some y ∧ p = some ⟨b, o, none⟩ ∧ AtL w b (o + k * L) (f y) := by
  obtain ⟨y, hy⟩ : ∃ y, l[k]? = some y := ⟨_, List.getElem?_eq_getElem hk⟩
  obtain ⟨b, o, h1, h2⟩ := h k y hy
  exact ⟨y, b, o, hy, h1, h2⟩
theorem RowA.own {base : Nat} {e : TypeId} {n c : Nat} (h : w.ownsRow base e L (.slice p n c) n (l.flatMap f)) (hl : ∀ y, (f y).length = L) (h0 : 0 < L) : RowA f L w p l := fun k y hy => by
  obtain ⟨g, h1, h2⟩ := own_at f h (fun y _ => hl y) h0 hy
  exact ⟨g, 0, h1, h2⟩
theorem RowA.nil : RowA f L w p [] := fun k y hy => by simp at hy
end
theorem AtL.cell {w : World} {b o : Nat} {cs : List Value} (h : AtL w b o cs) {j : Nat} {v : Value} (hj : cs[j]? = some v) : w.cell? ⟨b, o + j, none⟩ = some v := At_get _ _ h.h j v hj
theorem AtL.one {w : World} {b o : Nat} {v : Value} (h : AtL w b o [v]) : w.cell? ⟨b, o, none⟩ = some v := by simpa using h.cell (j := 0) rfl
theorem StrP.get {w : World} {p : Option Addr} {zs : List ByteArray} (h : StrP w p zs) {k : Nat} (hk : k < zs.length) : ∃ z b o, zs[k]? = some z ∧ p = some ⟨b, o, none⟩ ∧ w.cell? ⟨b, o + k, none⟩ = some (.string z) := by
  obtain ⟨y, hy⟩ : ∃ y, zs[k]? = some y := ⟨_, List.getElem?_eq_getElem hk⟩
  obtain ⟨b, o, h1, h2⟩ := h k y hy
  exact ⟨y, b, o, hy, h1, h2⟩
theorem StrP.k0 {w w' : World} {p : Option Addr} {zs : List ByteArray} (h : StrP w p zs) (hk : K0 w w') : StrP w' p zs := h.kp hk (fun _ _ _ h => h)
theorem inc64 {i : Nat} (h : i < 9223372036854775807) : IntKind.i64.wrap ((i : Int) + 1) = ((i + 1 : Nat) : Int) := by rw [wr64 (by omega) (by omega)]; omega
theorem take_snoc {α : Type} {l : List α} {i : Nat} {x : α} (h : l[i]? = some x) : l.take (i + 1) = l.take i ++ [x] := by rw [List.take_add_one, h]; rfl
/-- A block of the function's own is written. -/
theorem put_k0 {w w1 w2 : World} {b o : Nat} {cs : List Value} (h : K0 w w1) (hp : PutB w1 b o cs w2) (hb : w.heap.size ≤ b) : K0 w w2 := Kp.fresh h hp.kp (fun i hi e => by omega)
theorem put_kept {w1 w2 : World} {b o : Nat} {cs : List Value} {l : List Nat} (hp : PutB w1 b o cs w2) (hb : ∀ n ∈ l, n ≠ b) : KeptL l w1 w2 := .of_kp hp.kp (fun n hn e => hb n hn e)
theorem PutB.blk {w1 w2 : World} {b o : Nat} {cs : List Value} (hp : PutB w1 b o cs w2) {n : Nat} {x : Obj} (h : w1.heap[n]? = some x) (hb : n ≠ b) : w2.heap[n]? = some x := hp.kp.blk h (fun e => hb e)
end Go.Proofs.Ytmjanmffnblcoaa

/- Orders by a comparing function (plain): numbers first, then bytes. No condition. -/
namespace Go.Proofs.Ytmjanmffnblcoaa
open Go.Sort

/-- A comparing function. -/
structure Ord3 {α : Type} (cf : α → α → Int) : Prop where
  anti : ∀ x y, cf x y = - cf y x
  tlt : ∀ x y z, cf x y < 0 → cf y z < 0 → cf x z < 0
  el : ∀ x y z, cf x y = 0 → cf y z < 0 → cf x z < 0
  le : ∀ x y z, cf x y < 0 → cf y z = 0 → cf x z < 0
theorem Ord3.self {α : Type} {cf : α → α → Int} (h : Ord3 cf) (x : α) : cf x x = 0 := by have := h.anti x x; omega
theorem Ord3.le_trans {α : Type} {cf : α → α → Int} (h : Ord3 cf) {x y z : α} (h1 : cf x y ≤ 0) (h2 : cf y z ≤ 0) (hz : ∀ x y z, cf x y = 0 → cf y z = 0 → cf x z = 0) : cf x z ≤ 0 := by
  rcases Int.lt_or_eq_of_le h1 with a | a <;> rcases Int.lt_or_eq_of_le h2 with b | b
  · have := h.tlt x y z a b; omega
  · have := h.le x y z a b; omega
  · have := h.el x y z a b; omega
  · have := hz x y z a b; omega
theorem cb_anti : ∀ a b : List UInt8, Lib.compareBytes a b = - Lib.compareBytes b a
  | [], [] => rfl
  | [], _ :: _ => rfl
  | _ :: _, [] => rfl
  | a :: us, b :: bs => by
    have ih := cb_anti us bs
    simp only [Lib.compareBytes]
    by_cases h1 : a < b
    · have h2 : ¬ b < a := by rw [UInt8.lt_iff_toNat_lt] at h1 ⊢; omega
      rw [if_pos h1, if_neg h2, if_pos h1]
    · by_cases h2 : b < a
      · rw [if_neg h1, if_pos h2, if_pos h2]; rfl
      · rw [if_neg h1, if_neg h2, if_neg h2, if_neg h1]; exact ih
theorem cb_zero : ∀ a b : List UInt8, Lib.compareBytes a b = 0 → a = b
  | [], [], _ => rfl
  | [], _ :: _, h => by simp [Lib.compareBytes] at h
  | _ :: _, [], h => by simp [Lib.compareBytes] at h
  | a :: us, b :: bs, h => by
    simp only [Lib.compareBytes] at h
    split at h
    · cases h
    · split at h
      · cases h
      · rename_i h1 h2
        have : a = b := by
          rw [UInt8.lt_iff_toNat_lt] at h1 h2
          exact UInt8.toNat_inj.1 (by omega)
        rw [this, cb_zero us bs h]
theorem cb_self (a : List UInt8) : Lib.compareBytes a a = 0 := by have := cb_anti a a; omega
theorem cb_tlt : ∀ a b c : List UInt8, Lib.compareBytes a b < 0 → Lib.compareBytes b c < 0 → Lib.compareBytes a c < 0
  | [], [], _, h, _ => by simp [Lib.compareBytes] at h
  | _ :: _, [], _, h, _ => by simp [Lib.compareBytes] at h
  | [], _ :: _, [], _, h => by simp [Lib.compareBytes] at h
  | [], _ :: _, _ :: _, _, _ => by simp [Lib.compareBytes]
  | _ :: _, _ :: _, [], _, h => by simp [Lib.compareBytes] at h
  | a :: us, b :: bs, c :: cs, h1, h2 => by
    have ih := cb_tlt us bs cs
    simp only [Lib.compareBytes] at h1 h2 ⊢
    simp only [UInt8.lt_iff_toNat_lt] at h1 h2 ⊢
    repeat' split
    all_goals first | decide | (split at h1 <;> split at h2 <;> first | omega | (split at h1 <;> first | omega | (split at h2 <;> first | omega | (apply ih <;> assumption))) | (split at h2 <;> first | omega | (apply ih <;> assumption)))
theorem cb_ord {α : Type} (f : α → List UInt8) : Ord3 fun x y => Lib.compareBytes (f x) (f y) where
  anti x y := cb_anti _ _
  tlt x y z := cb_tlt _ _ _
  el x y z h1 h2 := by have := cb_zero _ _ h1; rw [this]; exact h2
  le x y z h1 h2 := by have := cb_zero _ _ h2; rw [← this]; exact h1
theorem ci_ord {α : Type} (f : α → Int) : Ord3 fun x y => if f x < f y then (-1 : Int) else if f y < f x then 1 else 0 where
  anti x y := by split <;> split <;> omega
  tlt x y z h1 h2 := by split at h1 <;> split at h2 <;> split <;> omega
  el x y z h1 h2 := by split at h1 <;> split at h2 <;> split <;> omega
  le x y z h1 h2 := by split at h1 <;> split at h2 <;> split <;> omega
/-- One after the other. -/
theorem Ord3.thn {α : Type} {cf cg : α → α → Int} (hf : Ord3 cf) (hg : Ord3 cg) (hz : ∀ x y z, cf x y = 0 → cf y z = 0 → cf x z = 0) : Ord3 fun x y => if cf x y ≠ 0 then cf x y else cg x y where
  anti x y := by
    have h1 := hf.anti x y
    have h2 := hg.anti x y
    by_cases h : cf x y = 0
    · rw [if_neg (by omega), if_neg (by omega)]; exact h2
    · rw [if_pos h, if_pos (by omega)]; exact h1
  tlt x y z h1 h2 := by
    by_cases a : cf x y = 0
    · rw [if_neg (by omega)] at h1
      by_cases b : cf y z = 0
      · rw [if_neg (by omega)] at h2
        rw [if_neg (by have := hz x y z a b; omega)]
        exact hg.tlt x y z h1 h2
      · rw [if_pos b] at h2
        have := hf.el x y z a h2
        rw [if_pos (by omega)]; exact this
    · rw [if_pos a] at h1
      by_cases b : cf y z = 0
      · have := hf.le x y z h1 b
        rw [if_pos (by omega)]; exact this
      · rw [if_pos b] at h2
        have := hf.tlt x y z h1 h2
        rw [if_pos (by omega)]; exact this
  el x y z h1 h2 := by
    by_cases a : cf x y = 0
    · rw [if_neg (by omega)] at h1
      by_cases b : cf y z = 0
      · rw [if_neg (by omega)] at h2
        rw [if_neg (by have := hz x y z a b; omega)]
        exact hg.el x y z h1 h2
      · rw [if_pos b] at h2
        have := hf.el x y z a h2
        rw [if_pos (by omega)]; exact this
    · rw [if_pos a] at h1; omega
  le x y z h1 h2 := by
    by_cases b : cf y z = 0
    · rw [if_neg (by omega)] at h2
      by_cases a : cf x y = 0
      · rw [if_neg (by omega)] at h1
        rw [if_neg (by have := hz x y z a b; omega)]
        exact hg.le x y z h1 h2
      · rw [if_pos a] at h1
        have := hf.le x y z h1 b
        rw [if_pos (by omega)]; exact this
    · rw [if_pos b] at h2; omega
theorem Ord3.swo {α : Type} {cf : α → α → Int} (h : Ord3 cf) : SWO fun x y => decide (cf x y < 0) where
  irrefl x := by have := h.self x; simp; omega
  trans x y z h1 h2 := by simp at h1 h2 ⊢; exact h.tlt x y z h1 h2
  ntrans x y z h1 h2 := by
    simp at h1 h2 ⊢
    have a1 := h.anti x y
    have a2 := h.anti y z
    have a3 := h.anti x z
    rcases Int.lt_or_eq_of_le h1 with p | p <;> rcases Int.lt_or_eq_of_le h2 with q | q
    · have := h.tlt z y x (by omega) (by omega); omega
    · have := h.el z y x (by omega) (by omega); omega
    · have := h.le z y x (by omega) (by omega); omega
    · have b1 : cf x y = 0 := by omega
      have b2 : cf y z = 0 := by omega
      apply Classical.byContradiction
      intro hc
      have := h.le x z y (by omega) (by omega)
      omega

end Go.Proofs.Ytmjanmffnblcoaa

/- Sorted permutations are equal; insertion keeps the order; keys of a number and bytes (plain). No condition. -/
namespace Go.Proofs.Ytmjanmffnblcoaa
open Go.Sort

theorem perm_sorted_eq {β : Type} {R : β → β → Prop} (anti : ∀ x y, R x y → R y x → x = y) : ∀ (L L' : List β), L.Perm L' → L.Pairwise R → L'.Pairwise R → L = L'
  | [], L', h, _, _ => (List.nil_perm.1 h).symm
  | a :: r, [], h, _, _ => by have := h.length_eq; simp at this
  | a :: r, b :: r', h, h1, h2 => by
    have e : a = b := by
      by_cases e : a = b
      · exact e
      · have ha : a ∈ r' := by
          have : a ∈ b :: r' := h.mem_iff.1 List.mem_cons_self
          rcases List.mem_cons.1 this with h | h
          · exact absurd h e
          · exact h
        have hb : b ∈ r := by
          have : b ∈ a :: r := h.mem_iff.2 List.mem_cons_self
          rcases List.mem_cons.1 this with h | h
          · exact absurd h.symm e
          · exact h
        exact anti a b ((List.pairwise_cons.1 h1).1 b hb) ((List.pairwise_cons.1 h2).1 a ha)
    subst e
    congr 1
    exact perm_sorted_eq anti r r' h.cons_inv (List.pairwise_cons.1 h1).2 (List.pairwise_cons.1 h2).2
/-- The key of a candidate. -/
abbrev Key := Int × List UInt8
def cfK (x y : Key) : Int := if (if x.1 < y.1 then (-1 : Int) else if y.1 < x.1 then 1 else 0) ≠ 0 then (if x.1 < y.1 then (-1 : Int) else if y.1 < x.1 then 1 else 0) else Lib.compareBytes x.2 y.2
theorem cfK_ord : Ord3 cfK := (ci_ord (fun x : Key => x.1)).thn (cb_ord (fun x : Key => x.2)) (fun x y z h1 h2 => by split at h1 <;> split at h2 <;> split <;> omega)
theorem cfK_zero {x y : Key} (h : cfK x y = 0) : x = y := by
  by_cases h1 : x.1 < y.1
  · simp [cfK, h1] at h
  · by_cases h2 : y.1 < x.1
    · simp [cfK, h1, h2] at h
    · have e1 : x.1 = y.1 := by omega
      simp [cfK, h1, h2] at h
      exact Prod.ext e1 (cb_zero _ _ h)
theorem cfK_lt (x y : Key) : cfK x y < 0 ↔ x.1 < y.1 ∨ x.1 = y.1 ∧ Lib.compareBytes x.2 y.2 < 0 := by
  by_cases h1 : x.1 < y.1
  · simp [cfK, h1]
  · by_cases h2 : y.1 < x.1
    · have : ¬ x.1 = y.1 := by omega
      simp [cfK, h1, h2, this]
    · have e1 : x.1 = y.1 := by omega
      simp [cfK, e1]
theorem keys_eq {L L' : List Key} (h : L.Perm L') (h1 : L.Pairwise fun x y => ¬ cfK y x < 0) (h2 : L'.Pairwise fun x y => ¬ cfK y x < 0) : L = L' :=
  perm_sorted_eq (R := fun x y => ¬ cfK y x < 0) (fun x y a b => by
    have := cfK_ord.anti x y
    exact cfK_zero (by omega)) L L' h h1 h2
/-- A new one goes behind all that it does not precede. -/
theorem ins_sorted {L : List Key} {x : Key} {k : Nat} (hs : L.Pairwise fun x y => ¬ cfK y x < 0) (h1 : ∀ y ∈ L.drop k, cfK x y < 0) (h2 : ∀ y, L[k - 1]? = some y → k ≠ 0 → ¬ cfK x y < 0) (hk : k ≤ L.length) :
    (L.take k ++ (x :: L.drop k)).Pairwise fun x y => ¬ cfK y x < 0 := by
  have hord := cfK_ord
  rw [← List.take_append_drop k L, List.pairwise_append] at hs
  obtain ⟨a, b, c⟩ := hs
  rw [List.pairwise_append, List.pairwise_cons]
  have lo : ∀ y ∈ L.take k, ¬ cfK x y < 0 := by
    intro y hy hlt
    have hk0 : k ≠ 0 := by rintro rfl; simp at hy
    obtain ⟨z, hz⟩ : ∃ z, L[k - 1]? = some z := ⟨_, List.getElem?_eq_getElem (by omega)⟩
    have hzx := h2 z hz hk0
    obtain ⟨i, hi, rfl⟩ := List.getElem_of_mem hy
    have hi' : i < k := by rw [List.length_take] at hi; omega
    have hik : i = k - 1 ∨ i < k - 1 := by omega
    have hy1 : (L.take k)[i] = L[i]'(by omega) := List.getElem_take
    rcases hik with rfl | hik
    · rw [List.getElem?_eq_getElem (by omega)] at hz
      simp at hz
      rw [hy1, hz] at hlt
      exact hzx hlt
    · have hp := List.pairwise_iff_getElem.1 a i (k - 1) hi (by rw [List.length_take]; omega) hik
      have hz1 : (L.take k)[k - 1]'(by rw [List.length_take]; omega) = z := by
        rw [List.getElem_take]
        rw [List.getElem?_eq_getElem (by omega)] at hz
        simpa using hz
      rw [hz1] at hp
      have a1 := hord.anti x z
      have a2 := hord.anti z (L.take k)[i]
      -- x < y, y ≤ z, so x < z
      rcases Int.lt_or_eq_of_le (show cfK (L.take k)[i] z ≤ 0 by have := hord.anti z (L.take k)[i]; omega) with q | q
      · exact hzx (hord.tlt _ _ _ hlt q)
      · exact hzx (hord.le _ _ _ hlt q)
  refine ⟨a, ⟨fun y hy hc => ?_, b⟩, fun y hy z hz => ?_⟩
  · have := h1 y hy
    have := hord.anti x y
    omega
  · rcases List.mem_cons.1 hz with rfl | hz
    · exact lo y hy
    · exact c y hy z hz

end Go.Proofs.Ytmjanmffnblcoaa

/- The formulas of functions by the symbolic evaluator, and that each gives the call's contract. Written by a program (gen.py). No condition. -/
namespace Go.Proofs.Ytmjanmffnblcoaa
set_option maxRecDepth 100000
set_option linter.unusedVariables false

def VC_items (s : ByteArray) (w : World) (R : Ending → World → Prop) : Prop :=
 ∃ (I : List Value → World → Prop),
 ∃ (m : List Value → World → Nat),
 I [Value.int IntKind.i64 0, Value.string (ByteArray.mk #[])] w ∧
 ∀ (x : Int) (x_1 : ByteArray) (w' : World),
 I [Value.int IntKind.i64 x, Value.string x_1] w' →
 bsp (decide (x < (↑s.size : Int)))
 ((0 ≤ x ∧ x < (↑s.size : Int)) ∧
 gimp ((lowerB (at8 s x.toNat) || digitB (at8 s x.toNat)) && decide (IntKind.i64.wrap (x + 2) < (↑s.size : Int)))
 (0 ≤ IntKind.i64.wrap (x + 1) ∧ IntKind.i64.wrap (x + 1) < (↑s.size : Int)) ∧
 bsp
 ((lowerB (at8 s x.toNat) || digitB (at8 s x.toNat)) && decide (IntKind.i64.wrap (x + 2) < (↑s.size : Int)) &&
 at8 s (IntKind.i64.wrap (x + 1)).toNat == 45)
 ((0 ≤ IntKind.i64.wrap (x + 2) ∧ IntKind.i64.wrap (x + 2) < (↑s.size : Int)) ∧
 bsp
 (decide (at8 s (IntKind.i64.wrap (x + 2)).toNat < at8 s x.toNat) ||
 !lowerB (at8 s x.toNat) == lowerB (at8 s (IntKind.i64.wrap (x + 2)).toNat) ||
 !digitB (at8 s x.toNat) == digitB (at8 s (IntKind.i64.wrap (x + 2)).toNat))
 (R (Ending.returned (Value.tuple #[Value.string x_1, Value.int IntKind.i64 x])) w')
 (∃ (I_1 : List Value → World → Prop),
 ∃ (m_1 : List Value → World → Nat),
 I_1 [Value.int IntKind.u8 (at8 s x.toNat), Value.string x_1] w' ∧
 ∀ (x_2 : Int) (x_3 : ByteArray) (w'_1 : World),
 I_1 [Value.int IntKind.u8 x_2, Value.string x_3] w'_1 →
 bsp (decide (x_2 ≤ at8 s (IntKind.i64.wrap (x + 2)).toNat))
 (∀ (n : Nat) (w1 : World),
 NewB w'_1 (Obj.cells #[Value.int IntKind.u8 x_2] 5) n w1 →
 ∃ (s : ByteArray),
 (s.size = 1 ∧ BytesP w1 (some (Addr.mk n 0 none)) s) ∧
 (9223372036854775807 - (↑(x_3.size + s.size) : Int)).NonNeg ∧
 I_1 [Value.int IntKind.u8 (IntKind.u8.wrap (x_2 + 1)), Value.string (x_3 ++ s)] w1 ∧
 m_1 [Value.int IntKind.u8 (IntKind.u8.wrap (x_2 + 1)), Value.string (x_3 ++ s)] w1 <
 m_1 [Value.int IntKind.u8 x_2, Value.string x_3] w'_1)
 (I [Value.int IntKind.i64 (IntKind.i64.wrap (x + 3)), Value.string x_3] w'_1 ∧
 m [Value.int IntKind.i64 (IntKind.i64.wrap (x + 3)), Value.string x_3] w'_1 <
 m [Value.int IntKind.i64 x, Value.string x_1] w')))
 (bsp
 (lowerB (at8 s x.toNat) || digitB (at8 s x.toNat) || at8 s x.toNat == 43 || at8 s x.toNat == 95 ||
 at8 s x.toNat == 46 ||
 at8 s x.toNat == 45 && x == 0)
 (∀ (n : Nat) (w1 : World),
 NewB w' (Obj.cells #[Value.int IntKind.u8 (at8 s x.toNat)] 5) n w1 →
 ∃ (s : ByteArray),
 (s.size = 1 ∧ BytesP w1 (some (Addr.mk n 0 none)) s) ∧
 (9223372036854775807 - (↑(x_1.size + s.size) : Int)).NonNeg ∧
 I [Value.int IntKind.i64 (IntKind.i64.wrap (x + 1)), Value.string (x_1 ++ s)] w1 ∧
 m [Value.int IntKind.i64 (IntKind.i64.wrap (x + 1)), Value.string (x_1 ++ s)] w1 <
 m [Value.int IntKind.i64 x, Value.string x_1] w')
 (R (Ending.returned (Value.tuple #[Value.string x_1, Value.int IntKind.i64 x])) w')))
 (R (Ending.returned (Value.tuple #[Value.string x_1, Value.int IntKind.i64 x])) w')
theorem vc_items (s : ByteArray) (w : World) (R : Ending → World → Prop) (h : VC_items s w R) : Calls Try.prog 78 ([Value.string
    s] : List Value).toArray w R := by
  have e : execR { P := Try.prog, loops := [(1, [(3, Ck.int IntKind.i64), (2, Ck.str)]), (10, [(7, Ck.int IntKind.u8), (2, Ck.str)])], pur := pur1, tails := [], joins := [], boxes := [] } Try.f78.results.toList R (Try.f78.body.getD .skip) (initF [Value.string
    s] (Try.f78.ntmps - ([Value.string s] : List Value).length)) w = VC_items s w R := by kernel_rfl
  have hb : Try.f78.body = some (Try.f78.body.getD .skip) := by kernel_rfl
  exact calls_of_exec' (P := Try.prog) (fn := Try.f78) (c := Try.f78.body.getD .skip) (args := [Value.string
    s]) (w := w) (R := R) pur1_ok Try.func78 hb e h

def VC_parseClass (s : ByteArray) (w : World) (R : Ending → World → Prop) : Prop :=
 bsp (Lib.hasPrefix s.data.toList [91, 94])
 (((0 : Int) ≤ 2 ∧ 2 ≤ (↑s.size : Int)) ∧
 CallsS Try.prog 78 #[Value.string (s.extract 2 s.size)] w fun (e : Ending) (w' : World) =>
 ∃ (x : ByteArray),
 ∃ (x_1 : Int),
 e = Ending.returned (Value.tuple #[Value.string x, Value.int IntKind.i64 x_1]) ∧
 gimp (!(x_1 == 0 || IntKind.i64.wrap (2 + x_1) == (↑s.size : Int)))
 (0 ≤ IntKind.i64.wrap (2 + x_1) ∧ IntKind.i64.wrap (2 + x_1) < (↑s.size : Int)) ∧
 bsp (x_1 == 0 || IntKind.i64.wrap (2 + x_1) == (↑s.size : Int) || at8 s (IntKind.i64.wrap (2 + x_1)).toNat != 93)
 (R (Ending.returned (Value.tuple #[Value.string (ByteArray.mk #[]), Value.int IntKind.i64 0])) w')
 (∀ (n : Nat) (w1 : World),
 NewB w'
 (Obj.cells
 #[Value.int IntKind.u8 43, Value.int IntKind.u8 45, Value.int IntKind.u8 46, Value.int IntKind.u8 48,
 Value.int IntKind.u8 49, Value.int IntKind.u8 50, Value.int IntKind.u8 51, Value.int IntKind.u8 52,
 Value.int IntKind.u8 53, Value.int IntKind.u8 54, Value.int IntKind.u8 55, Value.int IntKind.u8 56,
 Value.int IntKind.u8 57, Value.int IntKind.u8 95, Value.int IntKind.u8 97, Value.int IntKind.u8 98,
 Value.int IntKind.u8 99, Value.int IntKind.u8 100, Value.int IntKind.u8 101, Value.int IntKind.u8 102,
 Value.int IntKind.u8 103, Value.int IntKind.u8 104, Value.int IntKind.u8 105, Value.int IntKind.u8 106,
 Value.int IntKind.u8 107, Value.int IntKind.u8 108, Value.int IntKind.u8 109, Value.int IntKind.u8 110,
 Value.int IntKind.u8 111, Value.int IntKind.u8 112, Value.int IntKind.u8 113, Value.int IntKind.u8 114,
 Value.int IntKind.u8 115, Value.int IntKind.u8 116, Value.int IntKind.u8 117, Value.int IntKind.u8 118,
 Value.int IntKind.u8 119, Value.int IntKind.u8 120, Value.int IntKind.u8 121, Value.int IntKind.u8 122]
 5)
 n w1 →
 ∀ (w1_1 : World),
 MarkB w1 n w1_1 →
 ∃ (I : List Value → World → Prop),
 ∃ (m : List Value → World → Nat),
 I [Value.int IntKind.i64 0, Value.slice none 0 0] w1_1 ∧
 ∀ (x_2 : Int) (p : Option Addr) (n_1 c : Nat) (w' : World),
 I [Value.int IntKind.i64 x_2, Value.slice p n_1 c] w' →
 bsp (decide (x_2 < (↑40 : Int)))
 ((0 ≤ x_2 ∧ x_2 < (↑40 : Int)) ∧
 ∃ (x_3 : Int),
 w'.cell? (Addr.mk n (0 + x_2.toNat) none) = some (Value.int IntKind.u8 x_3) ∧
 bsp
 (!decide (Lib.indexByte x.data.toList x_3.toNat.toUInt8 ≥ 0) ==
 Lib.hasPrefix s.data.toList [91, 94])
 (∀ (n : Nat) (w1 : World),
 NewB w' (Obj.cells #[Value.int IntKind.u8 x_3] 5) n w1 →
 ∃ (base : Nat),
 ∃ (xs : List Value),
 ∃ (news : List Value),
 w1.ownsRow base 5 1 (Value.slice p n_1 c) n_1 xs ∧
 news.length = 1 ∧
 SrcP w1 (some (Addr.mk n 0 none)) news ∧
 n_1 + 1 ≤ 9223372036854775807 ∧
 (n_1 + 1) * 1 ≤ 140737488355328 ∧
 base ≤ w1.heap.size ∧
 ∀ (p' : Option Addr) (c' : Nat) (w'_1 : World),
 w'_1.ownsRow base 5 1 (Value.slice p' (n_1 + 1) c') (n_1 + 1) (xs ++ news) →
 w1.grownBy w'_1 (Value.slice p n_1 c).ownBlock →
 (n_1 + 1 ≤ c → p' = p ∧ c' = c) →
 I [Value.int IntKind.i64 (IntKind.i64.wrap (x_2 + 1)), Value.slice p' (n_1 + 1) c']
 w'_1 ∧
 m
 [Value.int IntKind.i64 (IntKind.i64.wrap (x_2 + 1)),
 Value.slice p' (n_1 + 1) c']
 w'_1 <
 m [Value.int IntKind.i64 x_2, Value.slice p n_1 c] w')
 (I [Value.int IntKind.i64 (IntKind.i64.wrap (x_2 + 1)), Value.slice p n_1 c] w' ∧
 m [Value.int IntKind.i64 (IntKind.i64.wrap (x_2 + 1)), Value.slice p n_1 c] w' <
 m [Value.int IntKind.i64 x_2, Value.slice p n_1 c] w'))
 (∃ (s : ByteArray),
 (s.size = n_1 ∧ BytesP w' p s) ∧
 R
 (Ending.returned
 (Value.tuple
 #[Value.string s, Value.int IntKind.i64 (IntKind.i64.wrap (IntKind.i64.wrap (2 + x_1) + 1))]))
 w')))
 (((0 : Int) ≤ 1 ∧ 1 ≤ (↑s.size : Int)) ∧
 CallsS Try.prog 78 #[Value.string (s.extract 1 s.size)] w fun (e : Ending) (w' : World) =>
 ∃ (x : ByteArray),
 ∃ (x_1 : Int),
 e = Ending.returned (Value.tuple #[Value.string x, Value.int IntKind.i64 x_1]) ∧
 gimp (!(x_1 == 0 || IntKind.i64.wrap (1 + x_1) == (↑s.size : Int)))
 (0 ≤ IntKind.i64.wrap (1 + x_1) ∧ IntKind.i64.wrap (1 + x_1) < (↑s.size : Int)) ∧
 bsp (x_1 == 0 || IntKind.i64.wrap (1 + x_1) == (↑s.size : Int) || at8 s (IntKind.i64.wrap (1 + x_1)).toNat != 93)
 (R (Ending.returned (Value.tuple #[Value.string (ByteArray.mk #[]), Value.int IntKind.i64 0])) w')
 (∀ (n : Nat) (w1 : World),
 NewB w'
 (Obj.cells
 #[Value.int IntKind.u8 43, Value.int IntKind.u8 45, Value.int IntKind.u8 46, Value.int IntKind.u8 48,
 Value.int IntKind.u8 49, Value.int IntKind.u8 50, Value.int IntKind.u8 51, Value.int IntKind.u8 52,
 Value.int IntKind.u8 53, Value.int IntKind.u8 54, Value.int IntKind.u8 55, Value.int IntKind.u8 56,
 Value.int IntKind.u8 57, Value.int IntKind.u8 95, Value.int IntKind.u8 97, Value.int IntKind.u8 98,
 Value.int IntKind.u8 99, Value.int IntKind.u8 100, Value.int IntKind.u8 101, Value.int IntKind.u8 102,
 Value.int IntKind.u8 103, Value.int IntKind.u8 104, Value.int IntKind.u8 105, Value.int IntKind.u8 106,
 Value.int IntKind.u8 107, Value.int IntKind.u8 108, Value.int IntKind.u8 109, Value.int IntKind.u8 110,
 Value.int IntKind.u8 111, Value.int IntKind.u8 112, Value.int IntKind.u8 113, Value.int IntKind.u8 114,
 Value.int IntKind.u8 115, Value.int IntKind.u8 116, Value.int IntKind.u8 117, Value.int IntKind.u8 118,
 Value.int IntKind.u8 119, Value.int IntKind.u8 120, Value.int IntKind.u8 121, Value.int IntKind.u8 122]
 5)
 n w1 →
 ∀ (w1_1 : World),
 MarkB w1 n w1_1 →
 ∃ (I : List Value → World → Prop),
 ∃ (m : List Value → World → Nat),
 I [Value.int IntKind.i64 0, Value.slice none 0 0] w1_1 ∧
 ∀ (x_2 : Int) (p : Option Addr) (n_1 c : Nat) (w' : World),
 I [Value.int IntKind.i64 x_2, Value.slice p n_1 c] w' →
 bsp (decide (x_2 < (↑40 : Int)))
 ((0 ≤ x_2 ∧ x_2 < (↑40 : Int)) ∧
 ∃ (x_3 : Int),
 w'.cell? (Addr.mk n (0 + x_2.toNat) none) = some (Value.int IntKind.u8 x_3) ∧
 bsp
 (!decide (Lib.indexByte x.data.toList x_3.toNat.toUInt8 ≥ 0) ==
 Lib.hasPrefix s.data.toList [91, 94])
 (∀ (n : Nat) (w1 : World),
 NewB w' (Obj.cells #[Value.int IntKind.u8 x_3] 5) n w1 →
 ∃ (base : Nat),
 ∃ (xs : List Value),
 ∃ (news : List Value),
 w1.ownsRow base 5 1 (Value.slice p n_1 c) n_1 xs ∧
 news.length = 1 ∧
 SrcP w1 (some (Addr.mk n 0 none)) news ∧
 n_1 + 1 ≤ 9223372036854775807 ∧
 (n_1 + 1) * 1 ≤ 140737488355328 ∧
 base ≤ w1.heap.size ∧
 ∀ (p' : Option Addr) (c' : Nat) (w'_1 : World),
 w'_1.ownsRow base 5 1 (Value.slice p' (n_1 + 1) c') (n_1 + 1) (xs ++ news) →
 w1.grownBy w'_1 (Value.slice p n_1 c).ownBlock →
 (n_1 + 1 ≤ c → p' = p ∧ c' = c) →
 I [Value.int IntKind.i64 (IntKind.i64.wrap (x_2 + 1)), Value.slice p' (n_1 + 1) c']
 w'_1 ∧
 m
 [Value.int IntKind.i64 (IntKind.i64.wrap (x_2 + 1)),
 Value.slice p' (n_1 + 1) c']
 w'_1 <
 m [Value.int IntKind.i64 x_2, Value.slice p n_1 c] w')
 (I [Value.int IntKind.i64 (IntKind.i64.wrap (x_2 + 1)), Value.slice p n_1 c] w' ∧
 m [Value.int IntKind.i64 (IntKind.i64.wrap (x_2 + 1)), Value.slice p n_1 c] w' <
 m [Value.int IntKind.i64 x_2, Value.slice p n_1 c] w'))
 (∃ (s : ByteArray),
 (s.size = n_1 ∧ BytesP w' p s) ∧
 R
 (Ending.returned
 (Value.tuple
 #[Value.string s, Value.int IntKind.i64 (IntKind.i64.wrap (IntKind.i64.wrap (1 + x_1) + 1))]))
 w')))
theorem vc_parseClass (s : ByteArray) (w : World) (R : Ending → World → Prop) (h : VC_parseClass s w R) : Calls Try.prog 68 ([Value.string
    s] : List Value).toArray w R := by
  have e : execR { P := Try.prog, loops := [(11, [(42, Ck.int IntKind.i64), (9, Ck.slice)])], pur := pur1, tails := [], joins := [], boxes := [] } Try.f68.results.toList R (Try.f68.body.getD .skip) (initF [Value.string
    s] (Try.f68.ntmps - ([Value.string s] : List Value).length)) w = VC_parseClass s w R := by kernel_rfl
  have hb : Try.f68.body = some (Try.f68.body.getD .skip) := by kernel_rfl
  exact calls_of_exec' (P := Try.prog) (fn := Try.f68) (c := Try.f68.body.getD .skip) (args := [Value.string
    s]) (w := w) (R := R) pur1_ok Try.func68 hb e h

def VC_spread (b : Nat) (o : Nat) (p : Option Addr) (n : Nat) (c : Nat) (w : World) (R : Ending → World → Prop) : Prop :=
 ∃ (p_1 : Option Addr),
 ∃ (n_1 : Nat),
 ∃ (c : Nat),
 w.cell? (Addr.mk b (o + 1) none) = some (Value.slice p_1 n_1 c) ∧
 ∃ (I : List Value → World → Prop),
 ∃ (m : List Value → World → Nat),
 I [Value.int IntKind.i64 0] w ∧
 ∀ (x : Int) (w' : World),
 I [Value.int IntKind.i64 x] w' →
 bsp (decide (x < (↑n_1 : Int)))
 (nn true p_1 fun (b o : Nat) =>
 (0 ≤ x ∧ x < (↑n_1 : Int)) ∧
 ∃ (x_1 : Value),
 w'.cell? (Addr.mk b (o + x.toNat) none) = some x_1 ∧
 nn true p fun (b o : Nat) =>
 (0 ≤ x ∧ x < (↑n : Int)) ∧
 ∃ (x_2 : Bool),
 w'.cell? (Addr.mk b (o + x.toNat) none) = some (Value.bool x_2) ∧
 bsp x_2
 (CallsS Try.prog 93 #[x_1] w' fun (e : Ending) (w'_1 : World) =>
 ∃ (x_3 : Bool),
 e = Ending.returned (Value.bool x_3) ∧
 bsp (true && x_3)
 (nn true p fun (b o : Nat) =>
 (0 ≤ IntKind.i64.wrap (x + 1) ∧ IntKind.i64.wrap (x + 1) < (↑n : Int)) ∧
 ((∃ (u : Value), w'_1.cell? (Addr.mk b (o + (IntKind.i64.wrap (x + 1)).toNat) none) = some u) ∧
 w'_1.frozen? (Addr.mk b (o + (IntKind.i64.wrap (x + 1)).toNat) none) = false) ∧
 ∀ (w1 : World),
 PutB w'_1 b (o + (IntKind.i64.wrap (x + 1)).toNat) [Value.bool true] w1 →
 I [Value.int IntKind.i64 (IntKind.i64.wrap (x + 1))] w1 ∧
 m [Value.int IntKind.i64 (IntKind.i64.wrap (x + 1))] w1 < m [Value.int IntKind.i64 x] w')
 (I [Value.int IntKind.i64 (IntKind.i64.wrap (x + 1))] w'_1 ∧
 m [Value.int IntKind.i64 (IntKind.i64.wrap (x + 1))] w'_1 < m [Value.int IntKind.i64 x] w'))
 (I [Value.int IntKind.i64 (IntKind.i64.wrap (x + 1))] w' ∧
 m [Value.int IntKind.i64 (IntKind.i64.wrap (x + 1))] w' < m [Value.int IntKind.i64 x] w'))
 (R (Ending.returned (Value.tuple #[])) w')
theorem vc_spread (b : Nat) (o : Nat) (p : Option Addr) (n : Nat) (c : Nat) (w : World) (R : Ending → World → Prop) (h : VC_spread b o p n c w R) : Calls Try.prog 91 ([Value.pointer
    (some { block := b, off := o }),
  Value.slice p n c] : List Value).toArray w R := by
  have e : execR { P := Try.prog, loops := [(1, [(11, Ck.int IntKind.i64)])], pur := pur1, tails := [], joins := [], boxes := [] } Try.f91.results.toList R (Try.f91.body.getD .skip) (initF [Value.pointer
    (some { block := b, off := o }),
  Value.slice p n
    c] (Try.f91.ntmps - ([Value.pointer (some { block := b, off := o }),
  Value.slice p n c] : List Value).length)) w = VC_spread b o p n c w R := by kernel_rfl
  have hb : Try.f91.body = some (Try.f91.body.getD .skip) := by kernel_rfl
  exact calls_of_exec' (P := Try.prog) (fn := Try.f91) (c := Try.f91.body.getD .skip) (args := [Value.pointer
    (some { block := b, off := o }),
  Value.slice p n c]) (w := w) (R := R) pur1_ok Try.func91 hb e h

end Go.Proofs.Ytmjanmffnblcoaa

/- The contracts of msgid.Site, feedrule.isDistribution, and of the reference's Site and word. A word's length is in the range of int. -/
namespace Go.Proofs.Ytmjanmffnblcoaa
open Go.RowKit

end Go.Proofs.Ytmjanmffnblcoaa

/- The contract of wildmat.items, by a plain function (which bytes are listed, how long the items are). The text has at most 2^30 bytes. -/
namespace Go.Proofs.Ytmjanmffnblcoaa
open Go.RowKit

/-- The string of one byte. -/
def b1 (c : Int) : ByteArray := ⟨#[c.toNat.toUInt8]⟩
theorem b1_size (c : Int) : (b1 c).size = 1 := rfl
theorem byte_inj {c d : Int} (hc : 0 ≤ c ∧ c ≤ 255) (hd : 0 ≤ d ∧ d ≤ 255) : (d.toNat.toUInt8 == c.toNat.toUInt8) = decide (d = c) := by
  rw [Bool.eq_iff_iff]
  simp only [beq_iff_eq, decide_eq_true_eq]
  constructor
  · intro h
    have h1 : d.toNat.toUInt8.toNat = c.toNat.toUInt8.toNat := by rw [h]
    rw [UInt8.toNat_ofNat', UInt8.toNat_ofNat'] at h1
    omega
  · rintro rfl; rfl
theorem hasB_b1 {a : ByteArray} {c d : Int} (hc : 0 ≤ c ∧ c ≤ 255) (hd : 0 ≤ d ∧ d ≤ 255) : hasB (a ++ b1 c) d = (hasB a d || decide (d = c)) := by
  unfold hasB
  have : (a ++ b1 c).data.toList = a.data.toList ++ [c.toNat.toUInt8] := by
    rw [ByteArray.data_append]; simp [b1]
  rw [this, ← byte_inj hc hd, List.contains_append]
  congr 1
  rw [List.contains_cons]
  simp
theorem b1_bytes {w : World} {n : Nat} {c : Int} (hc : 0 ≤ c ∧ c ≤ 255) {t : TypeId} (h : w.heap[n]? = some (.cells #[.int .u8 c] t (0, 0))) : (b1 c).size = 1 ∧ BytesP w (some (Addr.mk n 0 none)) (b1 c) := by
  refine ⟨rfl, ⟨.inr ⟨n, 0, rfl, ?_⟩⟩⟩
  have : byteCells (b1 c) = [.int .u8 c] := by
    simp only [byteCells, b1, List.map_cons, List.map_nil]
    congr 2
    rw [UInt8.toNat_ofNat']
    omega
  rw [this]
  exact cell_block h 0

def alB (c : Int) : Bool := lowerB c || digitB c
/-- A range of characters begins at an index. -/
def rngB (s : ByteArray) (k : Nat) : Bool := alB (at8 s k) && decide (k + 2 < s.size) && at8 s (k + 1) == 45
/-- A range has ends that don't fit. -/
def badB (c l : Int) : Bool := decide (l < c) || lowerB c != lowerB l || digitB c != digitB l
def singB (s : ByteArray) (k : Nat) : Bool := alB (at8 s k) || at8 s k == 43 || at8 s k == 95 || at8 s k == 46 || (at8 s k == 45 && k == 0)
/-- Which bytes the items at the beginning list, and how long they are. -/
def itemsS (s : ByteArray) : Nat → Nat → (Int → Bool) → (Int → Bool) × Nat
  | 0, k, p => (p, k)
  | f + 1, k, p =>
    if k < s.size then
      if rngB s k = true then
        if badB (at8 s k) (at8 s (k + 2)) = true then (p, k)
        else itemsS s f (k + 3) (fun d => p d || (decide (at8 s k ≤ d) && decide (d ≤ at8 s (k + 2))))
      else if singB s k = true then itemsS s f (k + 1) (fun d => p d || decide (d = at8 s k))
      else (p, k)
    else (p, k)
theorem alB_bd {c : Int} (h : alB c = true) : 0 ≤ c ∧ c ≤ 122 := by
  simp [alB, lowerB, digitB] at h; omega
theorem badB_not {c l : Int} (h : badB c l = false) (hc : alB c = true) : c ≤ l ∧ alB l = true := by
  simp [badB] at h
  obtain ⟨⟨h1, h2⟩, h3⟩ := h
  unfold alB at hc ⊢
  rw [← h2, ← h3]
  exact ⟨by omega, hc⟩

theorem items_any (s : ByteArray) (w : World) (hs : s.size ≤ 1073741824) : Calls Try.prog 78 #[.string s] w fun e w' =>
    ∃ x : ByteArray, e = .returned (.tuple #[.string x, .int .i64 (itemsS s s.size 0 (fun _ => false)).2]) ∧ (∀ d, 0 ≤ d → d ≤ 255 → hasB x d = (itemsS s s.size 0 (fun _ => false)).1 d) ∧ x.size ≤ 256 * s.size ∧ K0 w w' := by
  refine vc_items s w _ ?_
  unfold VC_items
  refine ⟨fun vs w' => ∃ (k f : Nat) (cs : ByteArray) (p : Int → Bool), vs = [.int .i64 k, .string cs] ∧ k ≤ s.size ∧ s.size - k ≤ f ∧ itemsS s f k p = itemsS s s.size 0 (fun _ => false) ∧
      cs.size ≤ 256 * k ∧ (∀ d, 0 ≤ d → d ≤ 255 → hasB cs d = p d) ∧ K0 w w', fun vs _ => (match vs with | .int _ x :: _ => s.size - x.toNat | _ => 0),
    ⟨0, s.size, ⟨#[]⟩, fun _ => false, rfl, by omega, by omega, rfl, by simp [ByteArray.size], fun d _ _ => rfl, .refl _ _⟩, fun x x_1 w' ⟨k, f, cs, p, hv, hk, hf, hS, hcs, hp, hw⟩ => ?_⟩
  simp only [List.cons.injEq, Value.int.injEq, true_and, Value.string.injEq, and_true] at hv
  obtain ⟨rfl, rfl⟩ := hv
  have fin : itemsS s f k p = (p, k) → (∃ x : ByteArray, Ending.returned (.tuple #[.string x_1, .int .i64 (k : Int)]) = .returned (.tuple #[.string x, .int .i64 (itemsS s s.size 0 (fun _ => false)).2]) ∧
      (∀ d, 0 ≤ d → d ≤ 255 → hasB x d = (itemsS s s.size 0 (fun _ => false)).1 d) ∧ x.size ≤ 256 * s.size ∧ K0 w w') := fun h => by
    rw [← hS, h]
    exact ⟨x_1, rfl, hp, by omega, hw⟩
  refine bsp_intro (fun hlt => ⟨?_, ?_, ?_⟩) (fun hge => ?_)
  · have : k < s.size := by simpa using hlt
    omega
  · have hlt : k < s.size := by simpa using hlt
    refine gimp_intro fun hg => ?_
    simp only [Bool.and_eq_true, decide_eq_true_eq] at hg
    have h2 := hg.2
    rw [wr64 (by omega) (by omega)] at h2
    rw [wr64 (by omega) (by omega)]
    omega
  · have hlt : k < s.size := by simpa using hlt
    rw [wr64 (x := (k : Int) + 2) (by omega) (by omega), wr64 (x := (k : Int) + 1) (by omega) (by omega), wr64 (x := (k : Int) + 3) (by omega) (by omega)]
    have e1 : ((k : Int) + 1).toNat = k + 1 := by omega
    have e2 : ((k : Int) + 2).toNat = k + 2 := by omega
    have e0 : (k : Int).toNat = k := by omega
    rw [e1, e2, e0]
    obtain ⟨f, rfl⟩ : ∃ g, f = g + 1 := ⟨f - 1, by omega⟩
    have hr : ((lowerB (at8 s k) || digitB (at8 s k)) && decide ((k : Int) + 2 < (s.size : Int)) && at8 s (k + 1) == 45) = rngB s k := by
      unfold rngB alB
      congr 2
      apply decide_eq_decide.2; omega
    rw [hr]
    have hbd := at8_bd s k
    refine bsp_intro (fun h1 => ⟨?_, ?_⟩) (fun h1 => ?_)
    · simp [rngB] at h1; omega
    · have h1' := h1
      simp only [rngB, Bool.and_eq_true, decide_eq_true_eq] at h1'
      have hb : (decide (at8 s (k + 2) < at8 s k) || !lowerB (at8 s k) == lowerB (at8 s (k + 2)) || !digitB (at8 s k) == digitB (at8 s (k + 2))) = badB (at8 s k) (at8 s (k + 2)) := rfl
      rw [hb]
      refine bsp_intro (fun h2 => ?_) (fun h2 => ?_)
      · exact fin (by simp [itemsS, hlt, h1, h2])
      · obtain ⟨hle, hal⟩ := badB_not h2 h1'.1.1
        have hlb := alB_bd hal
        have hcb := alB_bd h1'.1.1
        refine ⟨fun vs w1 => ∃ (j : Nat) (cs : ByteArray), vs = [.int .u8 (at8 s k + j), .string cs] ∧ at8 s k + j ≤ at8 s (k + 2) + 1 ∧ cs.size ≤ 256 * k + j ∧
            (∀ d, 0 ≤ d → d ≤ 255 → hasB cs d = (p d || (decide (at8 s k ≤ d) && decide (d < at8 s k + j)))) ∧ K0 w w1, fun vs _ => (match vs with | .int _ x :: _ => (at8 s (k + 2) + 1 - x).toNat | _ => 0),
          ⟨0, x_1, by simp, by omega, by omega, fun d h0 h9 => ?_, hw⟩, fun x_2 x_3 w1 ⟨j, cs, hv, hj, hcs', hp', hw1⟩ => ?_⟩
        · rw [hp d h0 h9]
          have : (decide (at8 s k ≤ d) && decide (d < at8 s k + (0 : Nat))) = false := by simp
          rw [this]; simp
        · simp only [List.cons.injEq, Value.int.injEq, true_and, Value.string.injEq, and_true] at hv
          obtain ⟨rfl, rfl⟩ := hv
          refine bsp_intro (fun h3 => fun n w2 hn => ⟨b1 (at8 s k + j), b1_bytes (by simp at h3; omega) hn.block, ?_, ?_⟩) (fun h3 => ⟨?_, ?_⟩)
          · show (((x_3.size + (b1 (at8 s k + j)).size : Nat) : Int) ≤ 9223372036854775807)
            rw [b1_size]
            simp at h3
            omega
          · have h3 : at8 s k + j ≤ at8 s (k + 2) := by simpa using h3
            have hwr : IntKind.u8.wrap (at8 s k + j + 1) = at8 s k + (j + 1 : Nat) := by
              have : IntKind.u8.wrap (at8 s k + j + 1) = at8 s k + j + 1 := IntWalk.u8_in _ ⟨by omega, by omega⟩
              rw [this]; omega
            rw [hwr]
            refine ⟨⟨j + 1, x_3 ++ b1 (at8 s k + j), rfl, by omega, by rw [ByteArray.size_append, b1_size]; omega, fun d h0 h9 => ?_, hw1.trans (hn.kp _)⟩, by simp; omega⟩
            rw [hasB_b1 (by omega) ⟨h0, h9⟩, hp' d h0 h9, Bool.or_assoc]
            congr 1
            rw [Bool.eq_iff_iff]
            simp
            omega
          · have h3 : ¬ at8 s k + j ≤ at8 s (k + 2) := by simpa using h3
            refine ⟨k + 3, f, x_3, fun d => p d || (decide (at8 s k ≤ d) && decide (d ≤ at8 s (k + 2))), by simp, by omega, by omega, ?_, by omega, fun d h0 h9 => ?_, hw1⟩
            · rw [← hS]
              simp [itemsS, hlt, h1, h2]
            · rw [hp' d h0 h9]
              congr 2
              apply decide_eq_decide.2
              omega
          · simp; omega
    · have hsg : (lowerB (at8 s k) || digitB (at8 s k) || at8 s k == 43 || at8 s k == 95 || at8 s k == 46 || at8 s k == 45 && (k : Int) == 0) = singB s k := by
        unfold singB alB
        congr 2
        rw [Bool.eq_iff_iff]; simp
      rw [hsg]
      refine bsp_intro (fun h2 => fun n w2 hn => ⟨b1 (at8 s k), b1_bytes (by omega) hn.block, ?_, ?_, ?_⟩) (fun h2 => ?_)
      · show (((x_1.size + (b1 (at8 s k)).size : Nat) : Int) ≤ 9223372036854775807)
        rw [b1_size]
        omega
      · refine ⟨k + 1, f, x_1 ++ b1 (at8 s k), fun d => p d || decide (d = at8 s k), by simp, by omega, by omega, ?_, by rw [ByteArray.size_append, b1_size]; omega, fun d h0 h9 => ?_, hw.trans (hn.kp _)⟩
        · rw [← hS]
          simp [itemsS, hlt, h1, h2]
        · rw [hasB_b1 (by omega) ⟨h0, h9⟩, hp d h0 h9]
      · simp; omega
      · exact fin (by simp [itemsS, hlt, h1, h2])
  · have hge : ¬ k < s.size := by simpa using hge
    refine fin ?_
    cases f with
    | zero => rfl
    | succ f => simp [itemsS, hge]

end Go.Proofs.Ytmjanmffnblcoaa

/- The contract of wildmat.parseClass, by a plain function. The text has at least one and at most 2^20 bytes. -/
namespace Go.Proofs.Ytmjanmffnblcoaa
open Go.RowKit

theorem byteCells_length (s : ByteArray) : (byteCells s).length = s.size := by
  unfold byteCells
  rw [List.length_map]
  exact s.data.length_toList
/-- A row of bytes as a string. -/
theorem owns_bytes {w : World} {base : Nat} {e : TypeId} {p : Option Addr} {n c : Nat} {s : ByteArray} (h : w.ownsRow base e 1 (.slice p n c) n (byteCells s)) : s.size = n ∧ BytesP w p s := by
  have hl := h.1
  rw [byteCells_length] at hl
  refine ⟨by omega, ⟨?_⟩⟩
  rcases h.2 with ⟨_, hn⟩ | ⟨g, cap, cur, hv, _, hg, _, _, _, ht⟩
  · left; omega
  · right
    simp only [Value.slice.injEq] at hv
    refine ⟨g, 0, hv.1, At_of _ 0 fun j v hj => ?_⟩
    rw [Nat.zero_add, cell_block hg]
    rw [← ht, List.getElem?_take] at hj
    split at hj
    · simpa using hj
    · simp at hj

def pickB (x : ByteArray) (neg : Bool) (b : UInt8) : Bool := !(hasB x (b.toNat : Int) == neg)
/-- The characters of a class. -/
def clsB (x : ByteArray) (neg : Bool) : ByteArray := ⟨(nameBytes.data.toList.filter (pickB x neg)).toArray⟩
theorem byteCells_cls (x : ByteArray) (neg : Bool) : byteCells (clsB x neg) = (nameBytes.data.toList.filter (pickB x neg)).map (fun b => Value.int .u8 b.toNat) := by simp [byteCells, clsB]

theorem class_loop {w0 wS : World} {n : Nat} {x : ByteArray} {neg : Bool} {R : ByteArray → World → Prop} {t : TypeId} {fz : Nat × Nat} (hb : wS.heap[n]? = some (.cells (byteCells nameBytes).toArray t fz)) (hK : K0 w0 wS) (hR : ∀ w', K0 w0 w' → R (clsB x neg) w') :
    ∃ (I : List Value → World → Prop), ∃ (m : List Value → World → Nat), I [.int .i64 0, .slice none 0 0] wS ∧
      ∀ (x_2 : Int) (p : Option Addr) (n_1 c : Nat) (w' : World), I [.int .i64 x_2, .slice p n_1 c] w' →
        bsp (decide (x_2 < (↑40 : Int)))
          ((0 ≤ x_2 ∧ x_2 < (↑40 : Int)) ∧
            ∃ (x_3 : Int), w'.cell? (Addr.mk n (0 + x_2.toNat) none) = some (.int .u8 x_3) ∧
              bsp (!decide (Lib.indexByte x.data.toList x_3.toNat.toUInt8 ≥ 0) == neg)
                (∀ (n : Nat) (w1 : World), NewB w' (Obj.cells #[.int .u8 x_3] 5) n w1 →
                  ∃ (base : Nat), ∃ (xs : List Value), ∃ (news : List Value), w1.ownsRow base 5 1 (.slice p n_1 c) n_1 xs ∧ news.length = 1 ∧ SrcP w1 (some (Addr.mk n 0 none)) news ∧
                    n_1 + 1 ≤ 9223372036854775807 ∧ (n_1 + 1) * 1 ≤ 140737488355328 ∧ base ≤ w1.heap.size ∧
                    ∀ (p' : Option Addr) (c' : Nat) (w'_1 : World), w'_1.ownsRow base 5 1 (.slice p' (n_1 + 1) c') (n_1 + 1) (xs ++ news) → w1.grownBy w'_1 (Value.slice p n_1 c).ownBlock → (n_1 + 1 ≤ c → p' = p ∧ c' = c) →
                      I [.int .i64 (IntKind.i64.wrap (x_2 + 1)), .slice p' (n_1 + 1) c'] w'_1 ∧ m [.int .i64 (IntKind.i64.wrap (x_2 + 1)), .slice p' (n_1 + 1) c'] w'_1 < m [.int .i64 x_2, .slice p n_1 c] w')
                (I [.int .i64 (IntKind.i64.wrap (x_2 + 1)), .slice p n_1 c] w' ∧ m [.int .i64 (IntKind.i64.wrap (x_2 + 1)), .slice p n_1 c] w' < m [.int .i64 x_2, .slice p n_1 c] w'))
          (∃ (s : ByteArray), (s.size = n_1 ∧ BytesP w' p s) ∧ R s w') := by
  let l := nameBytes.data.toList
  have hl : l.length = 40 := rfl
  let cell := fun b : UInt8 => Value.int .u8 b.toNat
  refine ⟨fun vs w' => ∃ (k : Nat) (p : Option Addr) (n_1 c : Nat), vs = [.int .i64 k, .slice p n_1 c] ∧ k ≤ 40 ∧ n_1 ≤ k ∧ K0 wS w' ∧ w'.ownsRow wS.heap.size 5 1 (.slice p n_1 c) n_1 (((l.take k).filter (pickB x neg)).map cell),
    fun vs _ => (match vs with | .int _ x :: _ => 40 - x.toNat | _ => 0), ⟨0, none, 0, 0, rfl, by omega, by omega, .refl _ _, World.ownsRow_nil _ _ _ _⟩, fun x_2 p n_1 c w' ⟨k, p', n', c', hv, hk, hn, hw, ho⟩ => ?_⟩
  simp only [List.cons.injEq, Value.int.injEq, true_and, Value.slice.injEq, and_true] at hv
  obtain ⟨rfl, rfl, rfl, rfl⟩ := hv
  have hbw : w'.heap[n]? = some (.cells (byteCells nameBytes).toArray t fz) := hw.blk hb (fun h => h)
  have hnb : n < wS.heap.size := block_lt hb
  refine bsp_intro (fun hlt => ?_) (fun hge => ?_)
  · have hlt : (k : Int) < 40 := of_decide_eq_true hlt
    have hlt : k < 40 := by omega
    have hlk : l[k]? = some (l[k]'(by rw [hl]; exact hlt)) := List.getElem?_eq_getElem _
    generalize hbk : l[k]'(by rw [hl]; exact hlt) = b at hlk
    have hbd := b.toNat_lt
    have htk : l.take (k + 1) = l.take k ++ [b] := by rw [List.take_add_one, hlk]; rfl
    have hwr : IntKind.i64.wrap ((k : Int) + 1) = ((k + 1 : Nat) : Int) := by rw [wr64 (by omega) (by omega)]; omega
    rw [hwr]
    refine ⟨by omega, (b.toNat : Int), ?_, ?_⟩
    · rw [Nat.zero_add, Int.toNat_natCast, cell_block hbw]
      have : (byteCells nameBytes)[k]? = some (.int .u8 b.toNat) := by
        show (l.map fun b => Value.int .u8 b.toNat)[k]? = _
        rw [List.getElem?_map, hlk]; rfl
      simpa using this
    · have hP : (!decide (Lib.indexByte x.data.toList (b.toNat : Int).toNat.toUInt8 ≥ 0) == neg) = pickB x neg b := by
        unfold pickB
        rw [show decide (Lib.indexByte x.data.toList (b.toNat : Int).toNat.toUInt8 ≥ 0) = hasB x (b.toNat : Int) from indexByte_nonneg _ _]
      rw [hP]
      refine bsp_intro (fun hp => fun n2 w1 hn2 => ?_) (fun hp => ⟨⟨k + 1, p, n_1, c, rfl, by omega, by omega, hw, ?_⟩, by simp; omega⟩)
      · have hK1 : K0 wS w1 := hw.trans (hn2.kp _)
        refine ⟨wS.heap.size, _, [.int .u8 b.toNat], owns_kp ho (hn2.kp (fun _ => False)) (fun _ _ h => h), rfl, src_block hn2.block (by simp [Value.oneCell']), by omega, by omega, hK1.size, fun p' c' w2 ho2 hg _ => ?_⟩
        refine ⟨⟨k + 1, p', n_1 + 1, c', rfl, by omega, by omega, hK1.grown hg (fun q hq => .inl (ho.lt q hq).1), ?_⟩, by simp; omega⟩
        rw [htk, List.filter_append, List.map_append]
        simpa [List.filter, hp, cell] using ho2
      · rw [htk, List.filter_append, List.map_append]
        simpa [List.filter, hp] using ho
  · have hge : ¬ (k : Int) < 40 := of_decide_eq_false hge
    have h40 : k = 40 := by omega
    subst h40
    have ht : l.take 40 = l := List.take_of_length_le (by rw [hl]; exact Nat.le_refl _)
    rw [ht, ← byteCells_cls] at ho
    exact ⟨clsB x neg, owns_bytes ho, hR w' (hK.trans hw)⟩

theorem itemsS_le (s : ByteArray) : ∀ (f k : Nat) (p : Int → Bool), k ≤ s.size → (itemsS s f k p).2 ≤ s.size
  | 0, k, p, h => h
  | f + 1, k, p, h => by
    unfold itemsS
    split
    · split
      · rename_i hr
        simp [rngB] at hr
        split
        · exact h
        · exact itemsS_le s f _ _ (by omega)
      · split
        · exact itemsS_le s f _ _ (by omega)
        · exact h
    · exact h
def negB (s : ByteArray) : Bool := Lib.hasPrefix s.data.toList [91, 94]
def fromN (s : ByteArray) : Nat := if negB s = true then 2 else 1
def restB (s : ByteArray) : ByteArray := s.extract (fromN s) s.size
def listS (s : ByteArray) : (Int → Bool) × Nat := itemsS (restB s) (restB s).size 0 (fun _ => false)
/-- The length of the class at the beginning, or 0. -/
def clsN (s : ByteArray) : Nat := if (listS s).2 = 0 ∨ fromN s + (listS s).2 = s.size ∨ at8 s (fromN s + (listS s).2) ≠ 93 then 0 else fromN s + (listS s).2 + 1
/-- The characters of the class at the beginning. -/
def clsS (s : ByteArray) : ByteArray := if clsN s = 0 then ⟨#[]⟩ else ⟨(nameBytes.data.toList.filter fun b => !((listS s).1 b.toNat == negB s)).toArray⟩
theorem hasPrefix_size {s : ByteArray} (h : negB s = true) : 2 ≤ s.size := by
  have hl : s.data.toList.length = s.size := s.data.length_toList
  unfold negB at h
  cases hs : s.data.toList with
  | nil => rw [hs] at h; simp [Lib.hasPrefix] at h
  | cons a r => cases r with
    | nil => rw [hs] at h; simp [Lib.hasPrefix] at h
    | cons b r => rw [hs] at hl; simp at hl; omega
theorem clsB_eq {s x : ByteArray} (h : clsN s ≠ 0) (hx : ∀ d, 0 ≤ d → d ≤ 255 → hasB x d = (listS s).1 d) : clsB x (negB s) = clsS s := by
  unfold clsB clsS
  rw [if_neg h]
  congr 2
  apply List.filter_congr
  intro b _
  unfold pickB
  rw [hx b.toNat (by omega) (by have := b.toNat_lt; omega)]
theorem parseClass_any (s : ByteArray) (w : World) (h1 : 1 ≤ s.size) (hs : s.size ≤ 1048576) : Calls Try.prog 68 #[.string s] w fun e w' =>
    e = .returned (.tuple #[.string (clsS s), .int .i64 (clsN s)]) ∧ K0 w w' := by
  refine vc_parseClass s w _ ?_
  unfold VC_parseClass
  have hsz : (restB s).size = s.size - fromN s := by unfold restB; rw [ByteArray.size_extract]; simp
  have key : ∀ (fr : Nat), fr = fromN s → ∀ (e : Ending) (w' : World), (∃ x : ByteArray, e = .returned (.tuple #[.string x, .int .i64 (listS s).2]) ∧ (∀ d, 0 ≤ d → d ≤ 255 → hasB x d = (listS s).1 d) ∧ x.size ≤ 256 * (restB s).size ∧ K0 w w') →
      (fr : Int) ≤ s.size →
      IntKind.i64.wrap ((fr : Int) + (listS s).2) = ((fr + (listS s).2 : Nat) : Int) := fun fr hfr e w' _ hle => by
    have := itemsS_le (restB s) (restB s).size 0 (fun _ => false) (by omega)
    have h2 : (listS s).2 ≤ (restB s).size := this
    rw [hsz] at h2
    rw [wr64 (by omega) (by omega)]; omega
  have hN : ∀ {w' : World}, ((listS s).2 = 0 ∨ fromN s + (listS s).2 = s.size ∨ at8 s (fromN s + (listS s).2) ≠ 93) → K0 w w' →
      (Ending.returned (.tuple #[.string ⟨#[]⟩, .int .i64 0]) = .returned (.tuple #[.string (clsS s), .int .i64 (clsN s)]) ∧ K0 w w') := fun h hk => by
    have h0 : clsN s = 0 := by unfold clsN; rw [if_pos h]
    refine ⟨?_, hk⟩
    unfold clsS
    rw [h0, if_pos rfl]
    rfl
  have core : ∀ (fr : Nat), fr = fromN s → fr ≤ s.size → ∀ (e : Ending) (w' : World), (∃ x : ByteArray, e = .returned (.tuple #[.string x, .int .i64 (listS s).2]) ∧ (∀ d, 0 ≤ d → d ≤ 255 → hasB x d = (listS s).1 d) ∧ x.size ≤ 256 * (restB s).size ∧ K0 w w') →
      ∃ (x : ByteArray), ∃ (x_1 : Int), e = .returned (.tuple #[.string x, .int .i64 x_1]) ∧
        gimp (!(x_1 == 0 || IntKind.i64.wrap ((fr : Int) + x_1) == (↑s.size : Int))) (0 ≤ IntKind.i64.wrap ((fr : Int) + x_1) ∧ IntKind.i64.wrap ((fr : Int) + x_1) < (↑s.size : Int)) ∧
        bsp (x_1 == 0 || IntKind.i64.wrap ((fr : Int) + x_1) == (↑s.size : Int) || at8 s (IntKind.i64.wrap ((fr : Int) + x_1)).toNat != 93)
          (Ending.returned (.tuple #[.string ⟨#[]⟩, .int .i64 0]) = .returned (.tuple #[.string (clsS s), .int .i64 (clsN s)]) ∧ K0 w w')
          (∀ (n : Nat) (w1 : World), NewB w' (Obj.cells (byteCells nameBytes).toArray 5) n w1 → ∀ (w2 : World), MarkB w1 n w2 → clsN s ≠ 0 ∧ K0 w w2 ∧ w2.heap[n]? = some (.cells (byteCells nameBytes).toArray 5 (40, 41)) ∧
            (∀ d, 0 ≤ d → d ≤ 255 → hasB x d = (listS s).1 d) ∧ IntKind.i64.wrap (IntKind.i64.wrap ((fr : Int) + x_1) + 1) = (clsN s : Int)) := fun fr hfr hle e w' he => by
    have hk := key fr hfr e w' he (by omega)
    obtain ⟨x, he, hx, _, hw⟩ := he
    refine ⟨x, _, he, ?_⟩
    rw [hk]
    have h2 : (listS s).2 ≤ (restB s).size := itemsS_le (restB s) (restB s).size 0 (fun _ => false) (by omega)
    rw [hsz] at h2
    have hcond : ((((listS s).2 : Nat) : Int) == 0 || ((fr + (listS s).2 : Nat) : Int) == (↑s.size : Int) || at8 s (((fr + (listS s).2 : Nat) : Int)).toNat != 93) = true ↔ ((listS s).2 = 0 ∨ fromN s + (listS s).2 = s.size ∨ at8 s (fromN s + (listS s).2) ≠ 93) := by
      rw [Int.toNat_natCast, hfr]
      simp only [Bool.or_eq_true, beq_iff_eq, bne_iff_ne, ne_eq, or_assoc]
      constructor
      · rintro (h | h | h)
        · left; omega
        · right; left; omega
        · right; right; exact h
      · rintro (h | h | h)
        · left; omega
        · right; left; omega
        · right; right; exact h
    refine ⟨gimp_intro fun hg => ?_, bsp_intro (fun hc => hN (hcond.1 hc) hw) (fun hc => fun n w1 hn w2 hm => ?_)⟩
    · simp only [Bool.not_eq_true', Bool.or_eq_false_iff, beq_eq_false_iff_ne, ne_eq] at hg
      omega
    · have hc' : ¬ ((listS s).2 = 0 ∨ fromN s + (listS s).2 = s.size ∨ at8 s (fromN s + (listS s).2) ≠ 93) := fun h => by rw [hcond.2 h] at hc; cases hc
      have hcn : clsN s = fromN s + (listS s).2 + 1 := by unfold clsN; rw [if_neg hc']
      refine ⟨by omega, ?_, hm.block hn.block, hx, ?_⟩
      · have := hn.ge
        have := hw.size
        exact (hw.trans (hn.kp _)).fresh hm.kp (fun i hi h => by omega)
      · rw [hcn, ← hfr, wr64 (by omega) (by omega)]; omega
  refine bsp_intro (fun hneg => ?_) (fun hneg => ?_)
  · have hf : fromN s = 2 := by unfold fromN; exact if_pos (show negB s = true from hneg)
    have h2 := hasPrefix_size hneg
    have hr : s.extract 2 s.size = restB s := by unfold restB; rw [hf]
    rw [hr]
    refine ⟨⟨by decide, by omega⟩, ⟨(items_any (restB s) w (by omega)).mono fun e w' he => ?_⟩⟩
    obtain ⟨x, x_1, h3, h4, h5⟩ := core 2 hf.symm h2 e w' he
    refine ⟨x, x_1, h3, h4, bsp_mono h5 (fun h => h) (fun h n w1 hn w2 hm => ?_)⟩
    obtain ⟨q1, q2, q3, q4, q5⟩ := h n w1 hn w2 hm
    refine class_loop q3 q2 (fun w3 hk => ⟨?_, hk⟩)
    rw [show IntKind.i64.wrap (IntKind.i64.wrap (2 + x_1) + 1) = (clsN s : Int) from q5]
    rw [show Lib.hasPrefix s.data.toList [91, 94] = negB s from rfl, clsB_eq q1 q4]
  · have hf : fromN s = 1 := by unfold fromN; rw [if_neg (by rw [show negB s = false from hneg]; decide)]
    have hr : s.extract 1 s.size = restB s := by unfold restB; rw [hf]
    rw [hr]
    refine ⟨⟨by decide, by omega⟩, ⟨(items_any (restB s) w (by omega)).mono fun e w' he => ?_⟩⟩
    obtain ⟨x, x_1, h3, h4, h5⟩ := core 1 hf.symm h1 e w' he
    refine ⟨x, x_1, h3, h4, bsp_mono h5 (fun h => h) (fun h n w1 hn w2 hm => ?_)⟩
    obtain ⟨q1, q2, q3, q4, q5⟩ := h n w1 hn w2 hm
    refine class_loop q3 q2 (fun w3 hk => ⟨?_, hk⟩)
    rw [show IntKind.i64.wrap (IntKind.i64.wrap (1 + x_1) + 1) = (clsN s : Int) from q5]
    rw [show Lib.hasPrefix s.data.toList [91, 94] = negB s from rfl, clsB_eq q1 q4]

end Go.Proofs.Ytmjanmffnblcoaa
