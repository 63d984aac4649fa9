/- The formulas of functions by the symbolic evaluator, and that each gives the call's contract. Written by a program (gen.py). No condition. -/
import Derived.Test.YtcpjajjocmpkjaaDoorProg
import Derived.Test.YtcpjajjocmpkjaaDoorSound
import Derived.Test.YtcpjajjocmpkjaaDoorPur1
import Derived.KernelRfl
namespace Go.Proofs.YtcpjajjocmpkjaaDoor
set_option maxRecDepth 100000
set_option linter.unusedVariables false

def VC_site (s : ByteArray) (w : World) (R : Ending → World → Prop) : Prop :=
 bsp (s.toList == []) (R (Ending.returned (Value.tuple #[Value.int IntKind.i64 0, Value.int IntKind.i64 4])) w)
 (bsp (decide ((↑s.size : Int) > 30))
 (R (Ending.returned (Value.tuple #[Value.int IntKind.i64 30, Value.int IntKind.i64 5])) w)
 (∃ (I : List Value → World → Prop),
 ∃ (m : List Value → World → Nat),
 I [Value.int IntKind.i64 0] w ∧
 ∀ (x : Int) (w' : World),
 I [Value.int IntKind.i64 x] w' →
 bsp (decide (x < (↑s.size : Int)))
 ((0 ≤ x ∧ x < (↑s.size : Int)) ∧
 bsp (!permB (at8 s x.toNat))
 (R (Ending.returned (Value.tuple #[Value.int IntKind.i64 x, Value.int IntKind.i64 6])) w')
 (I [Value.int IntKind.i64 (IntKind.i64.wrap (x + 1))] w' ∧
 m [Value.int IntKind.i64 (IntKind.i64.wrap (x + 1))] w' < m [Value.int IntKind.i64 x] w'))
 (∃ (I : List Value → World → Prop),
 ∃ (m : List Value → World → Nat),
 I [Value.int IntKind.i64 0] w' ∧
 ∀ (x : Int) (w' : World),
 I [Value.int IntKind.i64 x] w' →
 bsp (decide (x < (↑s.size : Int)))
 ((0 ≤ x ∧ x < (↑s.size : Int)) ∧
 gimp (!(x == 0 && !lowerB (at8 s x.toNat)) && (decide (x > 0) && at8 s x.toNat == 46))
 (0 ≤ IntKind.i64.wrap (x - 1) ∧ IntKind.i64.wrap (x - 1) < (↑s.size : Int)) ∧
 bsp
 (x == 0 && !lowerB (at8 s x.toNat) ||
 decide (x > 0) && at8 s x.toNat == 46 && at8 s (IntKind.i64.wrap (x - 1)).toNat == 46 ||
 x == IntKind.i64.wrap ((↑s.size : Int) - 1) && (at8 s x.toNat == 45 || at8 s x.toNat == 46))
 (R (Ending.returned (Value.tuple #[Value.int IntKind.i64 x, Value.int IntKind.i64 12])) w')
 (I [Value.int IntKind.i64 (IntKind.i64.wrap (x + 1))] w' ∧
 m [Value.int IntKind.i64 (IntKind.i64.wrap (x + 1))] w' < m [Value.int IntKind.i64 x] w'))
 (R (Ending.returned (Value.tuple #[Value.int IntKind.i64 0, Value.int IntKind.i64 0])) w'))))
theorem vc_site (s : ByteArray) (w : World) (R : Ending → World → Prop) (h : VC_site s w R) : Calls Tryd.prog 46 ([Value.string
    s] : List Value).toArray w R := by
  have e : execR { P := Tryd.prog, loops := [(6, [(17, Ck.int IntKind.i64)]), (12, [(29, Ck.int IntKind.i64)])], pur := pur1, tails := [], joins := [], boxes := [] } Tryd.f46.results.toList R (Tryd.f46.body.getD .skip) (initF [Value.string
    s] (Tryd.f46.ntmps - ([Value.string s] : List Value).length)) w = VC_site s w R := by kernel_rfl
  have hb : Tryd.f46.body = some (Tryd.f46.body.getD .skip) := by kernel_rfl
  exact calls_of_exec' (P := Tryd.prog) (fn := Tryd.f46) (c := Tryd.f46.body.getD .skip) (args := [Value.string
    s]) (w := w) (R := R) pur1_ok Tryd.func46 hb e h

def VC_isDist (s : ByteArray) (w : World) (R : Ending → World → Prop) : Prop :=
 bsp (s.toList == [] || decide ((↑s.size : Int) > 20)) (R (Ending.returned (Value.bool false)) w)
 (∃ (I : List Value → World → Prop),
 ∃ (m : List Value → World → Nat),
 I [Value.int IntKind.i64 0] w ∧
 ∀ (x : Int) (w' : World),
 I [Value.int IntKind.i64 x] w' →
 bsp (decide (x < (↑s.size : Int)))
 ((0 ≤ x ∧ x < (↑s.size : Int)) ∧
 bsp (!lowerB (at8 s x.toNat) && !digitB (at8 s x.toNat) && at8 s x.toNat != 45)
 (R (Ending.returned (Value.bool false)) w')
 (I [Value.int IntKind.i64 (IntKind.i64.wrap (x + 1))] w' ∧
 m [Value.int IntKind.i64 (IntKind.i64.wrap (x + 1))] w' < m [Value.int IntKind.i64 x] w'))
 (R (Ending.returned (Value.bool true)) w'))
theorem vc_isDist (s : ByteArray) (w : World) (R : Ending → World → Prop) (h : VC_isDist s w R) : Calls Tryd.prog 47 ([Value.string
    s] : List Value).toArray w R := by
  have e : execR { P := Tryd.prog, loops := [(4, [(14, Ck.int IntKind.i64)])], pur := pur1, tails := [], joins := [], boxes := [] } Tryd.f47.results.toList R (Tryd.f47.body.getD .skip) (initF [Value.string
    s] (Tryd.f47.ntmps - ([Value.string s] : List Value).length)) w = VC_isDist s w R := by kernel_rfl
  have hb : Tryd.f47.body = some (Tryd.f47.body.getD .skip) := by kernel_rfl
  exact calls_of_exec' (P := Tryd.prog) (fn := Tryd.f47) (c := Tryd.f47.body.getD .skip) (args := [Value.string
    s]) (w := w) (R := R) pur1_ok Tryd.func47 hb e h

def VC_items (s : ByteArray) (w : World) (R : Ending → World → Prop) : Prop :=
 ∃ (I : List Value → World → Prop),
 ∃ (m : List Value → World → Nat),
 I [Value.int IntKind.i64 0, Value.string (ByteArray.mk #[])] w ∧
 ∀ (x : Int) (x_1 : ByteArray) (w' : World),
 I [Value.int IntKind.i64 x, Value.string x_1] w' →
 bsp (decide (x < (↑s.size : Int)))
 ((0 ≤ x ∧ x < (↑s.size : Int)) ∧
 gimp ((lowerB (at8 s x.toNat) || digitB (at8 s x.toNat)) && decide (IntKind.i64.wrap (x + 2) < (↑s.size : Int)))
 (0 ≤ IntKind.i64.wrap (x + 1) ∧ IntKind.i64.wrap (x + 1) < (↑s.size : Int)) ∧
 bsp
 ((lowerB (at8 s x.toNat) || digitB (at8 s x.toNat)) && decide (IntKind.i64.wrap (x + 2) < (↑s.size : Int)) &&
 at8 s (IntKind.i64.wrap (x + 1)).toNat == 45)
 ((0 ≤ IntKind.i64.wrap (x + 2) ∧ IntKind.i64.wrap (x + 2) < (↑s.size : Int)) ∧
 bsp
 (decide (at8 s (IntKind.i64.wrap (x + 2)).toNat < at8 s x.toNat) ||
 !lowerB (at8 s x.toNat) == lowerB (at8 s (IntKind.i64.wrap (x + 2)).toNat) ||
 !digitB (at8 s x.toNat) == digitB (at8 s (IntKind.i64.wrap (x + 2)).toNat))
 (R (Ending.returned (Value.tuple #[Value.string x_1, Value.int IntKind.i64 x])) w')
 (∃ (I_1 : List Value → World → Prop),
 ∃ (m_1 : List Value → World → Nat),
 I_1 [Value.int IntKind.u8 (at8 s x.toNat), Value.string x_1] w' ∧
 ∀ (x_2 : Int) (x_3 : ByteArray) (w'_1 : World),
 I_1 [Value.int IntKind.u8 x_2, Value.string x_3] w'_1 →
 bsp (decide (x_2 ≤ at8 s (IntKind.i64.wrap (x + 2)).toNat))
 (∀ (n : Nat) (w1 : World),
 NewB w'_1 (Obj.cells #[Value.int IntKind.u8 x_2] 5) n w1 →
 ∃ (s : ByteArray),
 (s.size = 1 ∧ BytesP w1 (some (Addr.mk n 0 none)) s) ∧
 (9223372036854775807 - (↑(x_3.size + s.size) : Int)).NonNeg ∧
 I_1 [Value.int IntKind.u8 (IntKind.u8.wrap (x_2 + 1)), Value.string (x_3 ++ s)] w1 ∧
 m_1 [Value.int IntKind.u8 (IntKind.u8.wrap (x_2 + 1)), Value.string (x_3 ++ s)] w1 <
 m_1 [Value.int IntKind.u8 x_2, Value.string x_3] w'_1)
 (I [Value.int IntKind.i64 (IntKind.i64.wrap (x + 3)), Value.string x_3] w'_1 ∧
 m [Value.int IntKind.i64 (IntKind.i64.wrap (x + 3)), Value.string x_3] w'_1 <
 m [Value.int IntKind.i64 x, Value.string x_1] w')))
 (bsp
 (lowerB (at8 s x.toNat) || digitB (at8 s x.toNat) || at8 s x.toNat == 43 || at8 s x.toNat == 95 ||
 at8 s x.toNat == 46 ||
 at8 s x.toNat == 45 && x == 0)
 (∀ (n : Nat) (w1 : World),
 NewB w' (Obj.cells #[Value.int IntKind.u8 (at8 s x.toNat)] 5) n w1 →
 ∃ (s : ByteArray),
 (s.size = 1 ∧ BytesP w1 (some (Addr.mk n 0 none)) s) ∧
 (9223372036854775807 - (↑(x_1.size + s.size) : Int)).NonNeg ∧
 I [Value.int IntKind.i64 (IntKind.i64.wrap (x + 1)), Value.string (x_1 ++ s)] w1 ∧
 m [Value.int IntKind.i64 (IntKind.i64.wrap (x + 1)), Value.string (x_1 ++ s)] w1 <
 m [Value.int IntKind.i64 x, Value.string x_1] w')
 (R (Ending.returned (Value.tuple #[Value.string x_1, Value.int IntKind.i64 x])) w')))
 (R (Ending.returned (Value.tuple #[Value.string x_1, Value.int IntKind.i64 x])) w')
theorem vc_items (s : ByteArray) (w : World) (R : Ending → World → Prop) (h : VC_items s w R) : Calls Tryd.prog 90 ([Value.string
    s] : List Value).toArray w R := by
  have e : execR { P := Tryd.prog, loops := [(1, [(3, Ck.int IntKind.i64), (2, Ck.str)]), (10, [(7, Ck.int IntKind.u8), (2, Ck.str)])], pur := pur1, tails := [], joins := [], boxes := [] } Tryd.f90.results.toList R (Tryd.f90.body.getD .skip) (initF [Value.string
    s] (Tryd.f90.ntmps - ([Value.string s] : List Value).length)) w = VC_items s w R := by kernel_rfl
  have hb : Tryd.f90.body = some (Tryd.f90.body.getD .skip) := by kernel_rfl
  exact calls_of_exec' (P := Tryd.prog) (fn := Tryd.f90) (c := Tryd.f90.body.getD .skip) (args := [Value.string
    s]) (w := w) (R := R) pur1_ok Tryd.func90 hb e h

def VC_parseClass (s : ByteArray) (w : World) (R : Ending → World → Prop) : Prop :=
 bsp (Lib.hasPrefix s.data.toList [91, 94])
 (((0 : Int) ≤ 2 ∧ 2 ≤ (↑s.size : Int)) ∧
 CallsS Tryd.prog 90 #[Value.string (s.extract 2 s.size)] w fun (e : Ending) (w' : World) =>
 ∃ (x : ByteArray),
 ∃ (x_1 : Int),
 e = Ending.returned (Value.tuple #[Value.string x, Value.int IntKind.i64 x_1]) ∧
 gimp (!(x_1 == 0 || IntKind.i64.wrap (2 + x_1) == (↑s.size : Int)))
 (0 ≤ IntKind.i64.wrap (2 + x_1) ∧ IntKind.i64.wrap (2 + x_1) < (↑s.size : Int)) ∧
 bsp (x_1 == 0 || IntKind.i64.wrap (2 + x_1) == (↑s.size : Int) || at8 s (IntKind.i64.wrap (2 + x_1)).toNat != 93)
 (R (Ending.returned (Value.tuple #[Value.string (ByteArray.mk #[]), Value.int IntKind.i64 0])) w')
 (∀ (n : Nat) (w1 : World),
 NewB w'
 (Obj.cells
 #[Value.int IntKind.u8 43, Value.int IntKind.u8 45, Value.int IntKind.u8 46, Value.int IntKind.u8 48,
 Value.int IntKind.u8 49, Value.int IntKind.u8 50, Value.int IntKind.u8 51, Value.int IntKind.u8 52,
 Value.int IntKind.u8 53, Value.int IntKind.u8 54, Value.int IntKind.u8 55, Value.int IntKind.u8 56,
 Value.int IntKind.u8 57, Value.int IntKind.u8 95, Value.int IntKind.u8 97, Value.int IntKind.u8 98,
 Value.int IntKind.u8 99, Value.int IntKind.u8 100, Value.int IntKind.u8 101, Value.int IntKind.u8 102,
 Value.int IntKind.u8 103, Value.int IntKind.u8 104, Value.int IntKind.u8 105, Value.int IntKind.u8 106,
 Value.int IntKind.u8 107, Value.int IntKind.u8 108, Value.int IntKind.u8 109, Value.int IntKind.u8 110,
 Value.int IntKind.u8 111, Value.int IntKind.u8 112, Value.int IntKind.u8 113, Value.int IntKind.u8 114,
 Value.int IntKind.u8 115, Value.int IntKind.u8 116, Value.int IntKind.u8 117, Value.int IntKind.u8 118,
 Value.int IntKind.u8 119, Value.int IntKind.u8 120, Value.int IntKind.u8 121, Value.int IntKind.u8 122]
 5)
 n w1 →
 ∀ (w1_1 : World),
 MarkB w1 n w1_1 →
 ∃ (I : List Value → World → Prop),
 ∃ (m : List Value → World → Nat),
 I [Value.int IntKind.i64 0, Value.slice none 0 0] w1_1 ∧
 ∀ (x_2 : Int) (p : Option Addr) (n_1 c : Nat) (w' : World),
 I [Value.int IntKind.i64 x_2, Value.slice p n_1 c] w' →
 bsp (decide (x_2 < (↑40 : Int)))
 ((0 ≤ x_2 ∧ x_2 < (↑40 : Int)) ∧
 ∃ (x_3 : Int),
 w'.cell? (Addr.mk n (0 + x_2.toNat) none) = some (Value.int IntKind.u8 x_3) ∧
 bsp
 (!decide (Lib.indexByte x.data.toList x_3.toNat.toUInt8 ≥ 0) ==
 Lib.hasPrefix s.data.toList [91, 94])
 (∀ (n : Nat) (w1 : World),
 NewB w' (Obj.cells #[Value.int IntKind.u8 x_3] 5) n w1 →
 ∃ (base : Nat),
 ∃ (xs : List Value),
 ∃ (news : List Value),
 w1.ownsRow base 5 1 (Value.slice p n_1 c) n_1 xs ∧
 news.length = 1 ∧
 SrcP w1 (some (Addr.mk n 0 none)) news ∧
 n_1 + 1 ≤ 9223372036854775807 ∧
 (n_1 + 1) * 1 ≤ 140737488355328 ∧
 base ≤ w1.heap.size ∧
 ∀ (p' : Option Addr) (c' : Nat) (w'_1 : World),
 w'_1.ownsRow base 5 1 (Value.slice p' (n_1 + 1) c') (n_1 + 1) (xs ++ news) →
 w1.grownBy w'_1 (Value.slice p n_1 c).ownBlock →
 I [Value.int IntKind.i64 (IntKind.i64.wrap (x_2 + 1)), Value.slice p' (n_1 + 1) c']
 w'_1 ∧
 m [Value.int IntKind.i64 (IntKind.i64.wrap (x_2 + 1)), Value.slice p' (n_1 + 1) c']
 w'_1 <
 m [Value.int IntKind.i64 x_2, Value.slice p n_1 c] w')
 (I [Value.int IntKind.i64 (IntKind.i64.wrap (x_2 + 1)), Value.slice p n_1 c] w' ∧
 m [Value.int IntKind.i64 (IntKind.i64.wrap (x_2 + 1)), Value.slice p n_1 c] w' <
 m [Value.int IntKind.i64 x_2, Value.slice p n_1 c] w'))
 (∃ (s : ByteArray),
 (s.size = n_1 ∧ BytesP w' p s) ∧
 R
 (Ending.returned
 (Value.tuple
 #[Value.string s, Value.int IntKind.i64 (IntKind.i64.wrap (IntKind.i64.wrap (2 + x_1) + 1))]))
 w')))
 (((0 : Int) ≤ 1 ∧ 1 ≤ (↑s.size : Int)) ∧
 CallsS Tryd.prog 90 #[Value.string (s.extract 1 s.size)] w fun (e : Ending) (w' : World) =>
 ∃ (x : ByteArray),
 ∃ (x_1 : Int),
 e = Ending.returned (Value.tuple #[Value.string x, Value.int IntKind.i64 x_1]) ∧
 gimp (!(x_1 == 0 || IntKind.i64.wrap (1 + x_1) == (↑s.size : Int)))
 (0 ≤ IntKind.i64.wrap (1 + x_1) ∧ IntKind.i64.wrap (1 + x_1) < (↑s.size : Int)) ∧
 bsp (x_1 == 0 || IntKind.i64.wrap (1 + x_1) == (↑s.size : Int) || at8 s (IntKind.i64.wrap (1 + x_1)).toNat != 93)
 (R (Ending.returned (Value.tuple #[Value.string (ByteArray.mk #[]), Value.int IntKind.i64 0])) w')
 (∀ (n : Nat) (w1 : World),
 NewB w'
 (Obj.cells
 #[Value.int IntKind.u8 43, Value.int IntKind.u8 45, Value.int IntKind.u8 46, Value.int IntKind.u8 48,
 Value.int IntKind.u8 49, Value.int IntKind.u8 50, Value.int IntKind.u8 51, Value.int IntKind.u8 52,
 Value.int IntKind.u8 53, Value.int IntKind.u8 54, Value.int IntKind.u8 55, Value.int IntKind.u8 56,
 Value.int IntKind.u8 57, Value.int IntKind.u8 95, Value.int IntKind.u8 97, Value.int IntKind.u8 98,
 Value.int IntKind.u8 99, Value.int IntKind.u8 100, Value.int IntKind.u8 101, Value.int IntKind.u8 102,
 Value.int IntKind.u8 103, Value.int IntKind.u8 104, Value.int IntKind.u8 105, Value.int IntKind.u8 106,
 Value.int IntKind.u8 107, Value.int IntKind.u8 108, Value.int IntKind.u8 109, Value.int IntKind.u8 110,
 Value.int IntKind.u8 111, Value.int IntKind.u8 112, Value.int IntKind.u8 113, Value.int IntKind.u8 114,
 Value.int IntKind.u8 115, Value.int IntKind.u8 116, Value.int IntKind.u8 117, Value.int IntKind.u8 118,
 Value.int IntKind.u8 119, Value.int IntKind.u8 120, Value.int IntKind.u8 121, Value.int IntKind.u8 122]
 5)
 n w1 →
 ∀ (w1_1 : World),
 MarkB w1 n w1_1 →
 ∃ (I : List Value → World → Prop),
 ∃ (m : List Value → World → Nat),
 I [Value.int IntKind.i64 0, Value.slice none 0 0] w1_1 ∧
 ∀ (x_2 : Int) (p : Option Addr) (n_1 c : Nat) (w' : World),
 I [Value.int IntKind.i64 x_2, Value.slice p n_1 c] w' →
 bsp (decide (x_2 < (↑40 : Int)))
 ((0 ≤ x_2 ∧ x_2 < (↑40 : Int)) ∧
 ∃ (x_3 : Int),
 w'.cell? (Addr.mk n (0 + x_2.toNat) none) = some (Value.int IntKind.u8 x_3) ∧
 bsp
 (!decide (Lib.indexByte x.data.toList x_3.toNat.toUInt8 ≥ 0) ==
 Lib.hasPrefix s.data.toList [91, 94])
 (∀ (n : Nat) (w1 : World),
 NewB w' (Obj.cells #[Value.int IntKind.u8 x_3] 5) n w1 →
 ∃ (base : Nat),
 ∃ (xs : List Value),
 ∃ (news : List Value),
 w1.ownsRow base 5 1 (Value.slice p n_1 c) n_1 xs ∧
 news.length = 1 ∧
 SrcP w1 (some (Addr.mk n 0 none)) news ∧
 n_1 + 1 ≤ 9223372036854775807 ∧
 (n_1 + 1) * 1 ≤ 140737488355328 ∧
 base ≤ w1.heap.size ∧
 ∀ (p' : Option Addr) (c' : Nat) (w'_1 : World),
 w'_1.ownsRow base 5 1 (Value.slice p' (n_1 + 1) c') (n_1 + 1) (xs ++ news) →
 w1.grownBy w'_1 (Value.slice p n_1 c).ownBlock →
 I [Value.int IntKind.i64 (IntKind.i64.wrap (x_2 + 1)), Value.slice p' (n_1 + 1) c']
 w'_1 ∧
 m [Value.int IntKind.i64 (IntKind.i64.wrap (x_2 + 1)), Value.slice p' (n_1 + 1) c']
 w'_1 <
 m [Value.int IntKind.i64 x_2, Value.slice p n_1 c] w')
 (I [Value.int IntKind.i64 (IntKind.i64.wrap (x_2 + 1)), Value.slice p n_1 c] w' ∧
 m [Value.int IntKind.i64 (IntKind.i64.wrap (x_2 + 1)), Value.slice p n_1 c] w' <
 m [Value.int IntKind.i64 x_2, Value.slice p n_1 c] w'))
 (∃ (s : ByteArray),
 (s.size = n_1 ∧ BytesP w' p s) ∧
 R
 (Ending.returned
 (Value.tuple
 #[Value.string s, Value.int IntKind.i64 (IntKind.i64.wrap (IntKind.i64.wrap (1 + x_1) + 1))]))
 w')))
theorem vc_parseClass (s : ByteArray) (w : World) (R : Ending → World → Prop) (h : VC_parseClass s w R) : Calls Tryd.prog 69 ([Value.string
    s] : List Value).toArray w R := by
  have e : execR { P := Tryd.prog, loops := [(11, [(42, Ck.int IntKind.i64), (9, Ck.slice)])], pur := pur1, tails := [], joins := [], boxes := [] } Tryd.f69.results.toList R (Tryd.f69.body.getD .skip) (initF [Value.string
    s] (Tryd.f69.ntmps - ([Value.string s] : List Value).length)) w = VC_parseClass s w R := by kernel_rfl
  have hb : Tryd.f69.body = some (Tryd.f69.body.getD .skip) := by kernel_rfl
  exact calls_of_exec' (P := Tryd.prog) (fn := Tryd.f69) (c := Tryd.f69.body.getD .skip) (args := [Value.string
    s]) (w := w) (R := R) pur1_ok Tryd.func69 hb e h

def VC_spread (b : Nat) (o : Nat) (p : Option Addr) (n : Nat) (c : Nat) (w : World) (R : Ending → World → Prop) : Prop :=
 ∃ (p_1 : Option Addr),
 ∃ (n_1 : Nat),
 ∃ (c : Nat),
 w.cell? (Addr.mk b (o + 1) none) = some (Value.slice p_1 n_1 c) ∧
 ∃ (I : List Value → World → Prop),
 ∃ (m : List Value → World → Nat),
 I [Value.int IntKind.i64 0] w ∧
 ∀ (x : Int) (w' : World),
 I [Value.int IntKind.i64 x] w' →
 bsp (decide (x < (↑n_1 : Int)))
 (nn true p_1 fun (b o : Nat) =>
 (0 ≤ x ∧ x < (↑n_1 : Int)) ∧
 ∃ (x_1 : Value),
 w'.cell? (Addr.mk b (o + x.toNat) none) = some x_1 ∧
 nn true p fun (b o : Nat) =>
 (0 ≤ x ∧ x < (↑n : Int)) ∧
 ∃ (x_2 : Bool),
 w'.cell? (Addr.mk b (o + x.toNat) none) = some (Value.bool x_2) ∧
 bsp x_2
 (CallsS Tryd.prog 95 #[x_1] w' fun (e : Ending) (w'_1 : World) =>
 ∃ (x_3 : Bool),
 e = Ending.returned (Value.bool x_3) ∧
 bsp (true && x_3)
 (nn true p fun (b o : Nat) =>
 (0 ≤ IntKind.i64.wrap (x + 1) ∧ IntKind.i64.wrap (x + 1) < (↑n : Int)) ∧
 ((∃ (u : Value), w'_1.cell? (Addr.mk b (o + (IntKind.i64.wrap (x + 1)).toNat) none) = some u) ∧
 w'_1.frozen? (Addr.mk b (o + (IntKind.i64.wrap (x + 1)).toNat) none) = false) ∧
 ∀ (w1 : World),
 PutB w'_1 b (o + (IntKind.i64.wrap (x + 1)).toNat) [Value.bool true] w1 →
 I [Value.int IntKind.i64 (IntKind.i64.wrap (x + 1))] w1 ∧
 m [Value.int IntKind.i64 (IntKind.i64.wrap (x + 1))] w1 < m [Value.int IntKind.i64 x] w')
 (I [Value.int IntKind.i64 (IntKind.i64.wrap (x + 1))] w'_1 ∧
 m [Value.int IntKind.i64 (IntKind.i64.wrap (x + 1))] w'_1 < m [Value.int IntKind.i64 x] w'))
 (I [Value.int IntKind.i64 (IntKind.i64.wrap (x + 1))] w' ∧
 m [Value.int IntKind.i64 (IntKind.i64.wrap (x + 1))] w' < m [Value.int IntKind.i64 x] w'))
 (R (Ending.returned (Value.tuple #[])) w')
theorem vc_spread (b : Nat) (o : Nat) (p : Option Addr) (n : Nat) (c : Nat) (w : World) (R : Ending → World → Prop) (h : VC_spread b o p n c w R) : Calls Tryd.prog 93 ([Value.pointer
    (some { block := b, off := o }),
  Value.slice p n c] : List Value).toArray w R := by
  have e : execR { P := Tryd.prog, loops := [(1, [(11, Ck.int IntKind.i64)])], pur := pur1, tails := [], joins := [], boxes := [] } Tryd.f93.results.toList R (Tryd.f93.body.getD .skip) (initF [Value.pointer
    (some { block := b, off := o }),
  Value.slice p n
    c] (Tryd.f93.ntmps - ([Value.pointer (some { block := b, off := o }),
  Value.slice p n c] : List Value).length)) w = VC_spread b o p n c w R := by kernel_rfl
  have hb : Tryd.f93.body = some (Tryd.f93.body.getD .skip) := by kernel_rfl
  exact calls_of_exec' (P := Tryd.prog) (fn := Tryd.f93) (c := Tryd.f93.body.getD .skip) (args := [Value.pointer
    (some { block := b, off := o }),
  Value.slice p n c]) (w := w) (R := R) pur1_ok Tryd.func93 hb e h

def VC_len (b : Nat) (o : Nat) (w : World) (R : Ending → World → Prop) : Prop :=
 ∃ (p : Option Addr),
 ∃ (n : Nat),
 ∃ (c : Nat),
 w.cell? (Addr.mk b (o + 1) none) = some (Value.slice p n c) ∧
 R (Ending.returned (Value.int IntKind.i64 (↑n : Int))) w
theorem vc_len (b : Nat) (o : Nat) (w : World) (R : Ending → World → Prop) (h : VC_len b o w R) : Calls Tryd.prog 74 ([Value.pointer
    (some { block := b, off := o })] : List Value).toArray w R := by
  have e : execR { P := Tryd.prog, loops := [], pur := pur1, tails := [], joins := [], boxes := [] } Tryd.f74.results.toList R (Tryd.f74.body.getD .skip) (initF [Value.pointer
    (some
      { block := b,
        off :=
          o })] (Tryd.f74.ntmps - ([Value.pointer
    (some { block := b, off := o })] : List Value).length)) w = VC_len b o w R := by kernel_rfl
  have hb : Tryd.f74.body = some (Tryd.f74.body.getD .skip) := by kernel_rfl
  exact calls_of_exec' (P := Tryd.prog) (fn := Tryd.f74) (c := Tryd.f74.body.getD .skip) (args := [Value.pointer
    (some { block := b, off := o })]) (w := w) (R := R) pur1_ok Tryd.func74 hb e h

end Go.Proofs.YtcpjajjocmpkjaaDoor
