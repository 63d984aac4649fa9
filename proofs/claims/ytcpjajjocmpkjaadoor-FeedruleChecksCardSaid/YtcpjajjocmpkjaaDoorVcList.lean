/- The formulas of functions by the symbolic evaluator, and that each gives the call's contract. Written by a program (gen.py). No condition. -/
import Derived.Test.YtcpjajjocmpkjaaDoorProg
import Derived.Test.YtcpjajjocmpkjaaDoorSound
import Derived.Test.YtcpjajjocmpkjaaDoorPur1
import Derived.KernelRfl
namespace Go.Proofs.YtcpjajjocmpkjaaDoor
set_option maxRecDepth 100000
set_option linter.unusedVariables false

def VC_parseList (s : ByteArray) (w : World) (R : Ending → World → Prop) : Prop :=
 bsp (s.toList == [])
 (R (Ending.returned (Value.tuple #[Value.pointer none, Value.int IntKind.i64 0, Value.int IntKind.i64 4])) w)
 (∀ (n : Nat) (w1 : World),
 NewB w (Obj.cells #[Value.string s, Value.slice none 0 0] 110) n w1 →
 CallsS Tryd.prog 53 #[Value.string s, Value.string (ByteArray.mk #[44])] w1 fun (e : Ending) (w' : World) =>
 ∃ (p : Option Addr),
 ∃ (n_1 : Nat),
 ∃ (c : Nat),
 e = Ending.returned (Value.slice p n_1 c) ∧
 ∃ (I : List Value → World → Prop),
 ∃ (m : List Value → World → Nat),
 I [Value.int IntKind.i64 0, Value.int IntKind.i64 0] w' ∧
 ∀ (x x_1 : Int) (w' : World),
 I [Value.int IntKind.i64 x, Value.int IntKind.i64 x_1] w' →
 bsp (decide (x_1 < (↑n_1 : Int)))
 (nn true p fun (b o : Nat) =>
 (0 ≤ x_1 ∧ x_1 < (↑n_1 : Int)) ∧
 ∃ (x_2 : ByteArray),
 w'.cell? (Addr.mk b (o + x_1.toNat) none) = some (Value.string x_2) ∧
 ∃ (p : Option Addr),
 ∃ (n_2 : Nat),
 ∃ (c : Nat),
 w'.cell? (Addr.mk n (0 + 1) none) = some (Value.slice p n_2 c) ∧
 bsp ((↑n_2 : Int) == 64)
 (R
 (Ending.returned
 (Value.tuple #[Value.pointer none, Value.int IntKind.i64 x, Value.int IntKind.i64 9]))
 w')
 (∀ (n_3 : Nat) (w1 : World),
 NewB w' (Obj.cells #[Value.pointer none, Value.int IntKind.i64 0] 114) n_3 w1 →
 WrL w1 n_3 0 2 ∧
 ∀ (w1_1 : World),
 PutB w1 n_3 0 [Value.pointer none, Value.int IntKind.i64 1] w1_1 →
 ∃ (J : List Value → World → Prop),
 bsp (Lib.hasPrefix x_2.data.toList [33])
 (∃ (S : World → Prop),
 S w1_1.drew ∧
 ((0 : Int) ≤ 1 ∧ 1 ≤ (↑x_2.size : Int)) ∧
 ((∃ (u : Value), w1_1.drew.cell? (Addr.mk n_3 (0 + 1) none) = some u) ∧
 w1_1.drew.frozen? (Addr.mk n_3 (0 + 1) none) = false) ∧
 ∀ (w1 : World),
 PutB w1_1.drew n_3 (0 + 1) [Value.int IntKind.i64 2] w1 →
 J [Value.string (x_2.extract 1 x_2.size)] w1)
 (bsp (Lib.hasPrefix x_2.data.toList [64])
 (∃ (S : World → Prop),
 S w1_1.drew ∧
 ((0 : Int) ≤ 1 ∧ 1 ≤ (↑x_2.size : Int)) ∧
 ((∃ (u : Value), w1_1.drew.cell? (Addr.mk n_3 (0 + 1) none) = some u) ∧
 w1_1.drew.frozen? (Addr.mk n_3 (0 + 1) none) = false) ∧
 ∀ (w1 : World),
 PutB w1_1.drew n_3 (0 + 1) [Value.int IntKind.i64 3] w1 →
 J [Value.string (x_2.extract 1 x_2.size)] w1)
 (J [Value.string x_2] w1_1)) ∧
 ∀ (x_3 : ByteArray) (w'_1 : World),
 J [Value.string x_3] w'_1 →
 CallsS Tryd.prog 55 #[Value.string x_3] w'_1 fun (e : Ending) (w'_2 : World) =>
 ∃ (x_4 : Option Addr),
 ∃ (x_5 : Int),
 ∃ (x_6 : Int),
 e =
 Ending.returned
 (Value.tuple
 #[Value.pointer x_4, Value.int IntKind.i64 x_5, Value.int IntKind.i64 x_6]) ∧
 bsp (x_6 != 0)
 (R
 (Ending.returned
 (Value.tuple
 #[Value.pointer none,
 Value.int IntKind.i64
 (IntKind.i64.wrap
 (IntKind.i64.wrap
 (IntKind.i64.wrap (x + (↑x_2.size : Int)) - (↑x_3.size : Int)) +
 x_5)),
 Value.int IntKind.i64 x_6]))
 w'_2)
 (((∃ (u : Value), w'_2.cell? (Addr.mk n_3 0 none) = some u) ∧
 w'_2.frozen? (Addr.mk n_3 0 none) = false) ∧
 ∀ (w1 : World),
 PutB w'_2 n_3 0 [Value.pointer x_4] w1 →
 ∃ (S : World → Prop),
 S w1.drew ∧
 ∃ (p : Option Addr),
 ∃ (n_4 : Nat),
 ∃ (c : Nat),
 (∀ (w' : World),
 S w' → w'.cell? (Addr.mk n (0 + 1) none) = some (Value.slice p n_4 c)) ∧
 ∃ (x_7 : Option Addr),
 ∃ (x_8 : Int),
 (∀ (w' : World),
 S w' → AtL w' n_3 0 [Value.pointer x_7, Value.int IntKind.i64 x_8]) ∧
 ∀ (n_5 : Nat) (w1_2 : World),
 NewB w1.drew
 (Obj.cells #[Value.pointer x_7, Value.int IntKind.i64 x_8] 114) n_5
 w1_2 →
 S w1_2 ∧
 ∃ (base : Nat),
 ∃ (xs : List Value),
 ∃ (news : List Value),
 w1_2.ownsRow base 114 2 (Value.slice p n_4 c) n_4 xs ∧
 news.length = 2 ∧
 SrcP w1_2 (some (Addr.mk n_5 0 none)) news ∧
 n_4 + 1 ≤ 9223372036854775807 ∧
 (n_4 + 1) * 16 ≤ 140737488355328 ∧
 base ≤ w1_2.heap.size ∧
 ∀ (p' : Option Addr) (c' : Nat) (w'_3 : World),
 w'_3.ownsRow base 114 2 (Value.slice p' (n_4 + 1) c')
 (n_4 + 1) (xs ++ news) →
 w1_2.grownBy w'_3 (Value.slice p n_4 c).ownBlock →
 ((∃ (u : Value),
 w'_3.cell? (Addr.mk n (0 + 1) none) = some u) ∧
 w'_3.frozen? (Addr.mk n (0 + 1) none) = false) ∧
 ∀ (w1 : World),
 PutB w'_3 n (0 + 1) [Value.slice p' (n_4 + 1) c']
 w1 →
 I
 [Value.int IntKind.i64
 (IntKind.i64.wrap
 (x +
 IntKind.i64.wrap ((↑x_2.size : Int) + 1))),
 Value.int IntKind.i64
 (IntKind.i64.wrap (x_1 + 1))]
 w1 ∧
 m
 [Value.int IntKind.i64
 (IntKind.i64.wrap
 (x +
 IntKind.i64.wrap ((↑x_2.size : Int) + 1))),
 Value.int IntKind.i64
 (IntKind.i64.wrap (x_1 + 1))]
 w1 <
 m
 [Value.int IntKind.i64 x,
 Value.int IntKind.i64 x_1]
 w')))
 (R
 (Ending.returned
 (Value.tuple
 #[Value.pointer (some (Addr.mk n 0 none)), Value.int IntKind.i64 0, Value.int IntKind.i64 0]))
 w'))
theorem vc_parseList (s : ByteArray) (w : World) (R : Ending → World → Prop) (h : VC_parseList s w R) : Calls Tryd.prog 30 ([Value.string
    s] : List Value).toArray w R := by
  have e : execR { P := Tryd.prog, loops := [(6, [(6, Ck.int IntKind.i64), (22, Ck.int IntKind.i64)])], pur := pur1, tails := [(12, 3), (14, 3), (19, 6)], joins := [(15, [(10, Ck.str)])], boxes := [] } Tryd.f30.results.toList R (Tryd.f30.body.getD .skip) (initF [Value.string
    s] (Tryd.f30.ntmps - ([Value.string s] : List Value).length)) w = VC_parseList s w R := by kernel_rfl
  have hb : Tryd.f30.body = some (Tryd.f30.body.getD .skip) := by kernel_rfl
  exact calls_of_exec' (P := Tryd.prog) (fn := Tryd.f30) (c := Tryd.f30.body.getD .skip) (args := [Value.string
    s]) (w := w) (R := R) pur1_ok Tryd.func30 hb e h

def VC_verdict (b : Nat) (o : Nat) (s : ByteArray) (w : World) (R : Ending → World → Prop) : Prop :=
 CallsS Tryd.prog 74 #[Value.pointer (some (Addr.mk b o none))] w fun (e : Ending) (w' : World) =>
 ∃ (x : Int),
 e = Ending.returned (Value.int IntKind.i64 x) ∧
 ∃ (I : List Value → World → Prop),
 ∃ (m : List Value → World → Nat),
 I [Value.int IntKind.i64 (IntKind.i64.wrap (x - 1))] w' ∧
 ∀ (x : Int) (w' : World),
 I [Value.int IntKind.i64 x] w' →
 bsp (decide (x ≥ 0))
 (∃ (p : Option Addr),
 ∃ (n : Nat),
 ∃ (c : Nat),
 w'.cell? (Addr.mk b (o + 1) none) = some (Value.slice p n c) ∧
 nn true p fun (b_1 o_1 : Nat) =>
 (0 ≤ x ∧ x < (↑n : Int)) ∧
 ∃ (x_1 : Option Addr),
 w'.cell? (Addr.mk b_1 (o_1 + x.toNat * 2) none) = some (Value.pointer x_1) ∧
 CallsS Tryd.prog 75 #[Value.pointer x_1, Value.string s] w' fun (e : Ending) (w'_1 : World) =>
 ∃ (x_2 : Bool),
 e = Ending.returned (Value.bool x_2) ∧
 bsp x_2
 (∃ (p : Option Addr),
 ∃ (n : Nat),
 ∃ (c : Nat),
 w'_1.cell? (Addr.mk b (o + 1) none) = some (Value.slice p n c) ∧
 nn true p fun (b o : Nat) =>
 (0 ≤ x ∧ x < (↑n : Int)) ∧
 ∃ (x_3 : Int),
 w'_1.cell? (Addr.mk b (o + x.toNat * 2 + 1) none) = some (Value.int IntKind.i64 x_3) ∧
 R (Ending.returned (Value.int IntKind.i64 x_3)) w'_1)
 (I [Value.int IntKind.i64 (IntKind.i64.wrap (x - 1))] w'_1 ∧
 m [Value.int IntKind.i64 (IntKind.i64.wrap (x - 1))] w'_1 < m [Value.int IntKind.i64 x] w'))
 (R (Ending.returned (Value.int IntKind.i64 0)) w')
theorem vc_verdict (b : Nat) (o : Nat) (s : ByteArray) (w : World) (R : Ending → World → Prop) (h : VC_verdict b o s w R) : Calls Tryd.prog 58 ([Value.pointer
    (some { block := b, off := o }),
  Value.string s] : List Value).toArray w R := by
  have e : execR { P := Tryd.prog, loops := [(2, [(5, Ck.int IntKind.i64)])], pur := pur1, tails := [], joins := [], boxes := [] } Tryd.f58.results.toList R (Tryd.f58.body.getD .skip) (initF [Value.pointer
    (some { block := b, off := o }),
  Value.string
    s] (Tryd.f58.ntmps - ([Value.pointer (some { block := b, off := o }),
  Value.string s] : List Value).length)) w = VC_verdict b o s w R := by kernel_rfl
  have hb : Tryd.f58.body = some (Tryd.f58.body.getD .skip) := by kernel_rfl
  exact calls_of_exec' (P := Tryd.prog) (fn := Tryd.f58) (c := Tryd.f58.body.getD .skip) (args := [Value.pointer
    (some { block := b, off := o }),
  Value.string s]) (w := w) (R := R) pur1_ok Tryd.func58 hb e h

def VC_selects (b : Nat) (o : Nat) (p : Option Addr) (n : Nat) (c : Nat) (w : World) (R : Ending → World → Prop) : Prop :=
 ∃ (I : List Value → World → Prop),
 ∃ (m : List Value → World → Nat),
 I [Value.int IntKind.i64 0, Value.bool false] w ∧
 ∀ (x : Int) (x_1 : Bool) (w' : World),
 I [Value.int IntKind.i64 x, Value.bool x_1] w' →
 bsp (decide (x < (↑n : Int)))
 (nn true p fun (b_1 o_1 : Nat) =>
 (0 ≤ x ∧ x < (↑n : Int)) ∧
 ∃ (x_2 : ByteArray),
 w'.cell? (Addr.mk b_1 (o_1 + x.toNat) none) = some (Value.string x_2) ∧
 CallsS Tryd.prog 58 #[Value.pointer (some (Addr.mk b o none)), Value.string x_2] w'
 fun (e : Ending) (w'_1 : World) =>
 ∃ (x_3 : Int),
 e = Ending.returned (Value.int IntKind.i64 x_3) ∧
 bsp (x_3 == 1)
 (I [Value.int IntKind.i64 (IntKind.i64.wrap (x + 1)), Value.bool true] w'_1 ∧
 m [Value.int IntKind.i64 (IntKind.i64.wrap (x + 1)), Value.bool true] w'_1 <
 m [Value.int IntKind.i64 x, Value.bool x_1] w')
 (bsp (x_3 == 3) (R (Ending.returned (Value.bool false)) w'_1)
 (I [Value.int IntKind.i64 (IntKind.i64.wrap (x + 1)), Value.bool x_1] w'_1 ∧
 m [Value.int IntKind.i64 (IntKind.i64.wrap (x + 1)), Value.bool x_1] w'_1 <
 m [Value.int IntKind.i64 x, Value.bool x_1] w')))
 (R (Ending.returned (Value.bool x_1)) w')
theorem vc_selects (b : Nat) (o : Nat) (p : Option Addr) (n : Nat) (c : Nat) (w : World) (R : Ending → World → Prop) (h : VC_selects b o p n c w R) : Calls Tryd.prog 39 ([Value.pointer
    (some { block := b, off := o }),
  Value.slice p n c] : List Value).toArray w R := by
  have e : execR { P := Tryd.prog, loops := [(3, [(10, Ck.int IntKind.i64), (5, Ck.bool)])], pur := pur1, tails := [], joins := [], boxes := [] } Tryd.f39.results.toList R (Tryd.f39.body.getD .skip) (initF [Value.pointer
    (some { block := b, off := o }),
  Value.slice p n
    c] (Tryd.f39.ntmps - ([Value.pointer (some { block := b, off := o }),
  Value.slice p n c] : List Value).length)) w = VC_selects b o p n c w R := by kernel_rfl
  have hb : Tryd.f39.body = some (Tryd.f39.body.getD .skip) := by kernel_rfl
  exact calls_of_exec' (P := Tryd.prog) (fn := Tryd.f39) (c := Tryd.f39.body.getD .skip) (args := [Value.pointer
    (some { block := b, off := o }),
  Value.slice p n c]) (w := w) (R := R) pur1_ok Tryd.func39 hb e h

def VC_check (nb : ByteArray) (ps : ByteArray) (mb : Int) (dl : Int) (p : Option Addr) (n : Nat) (c : Nat) (w : World) (R : Ending → World → Prop) : Prop :=
 ∀ (n_1 : Nat) (w1 : World),
 NewB w
 (Obj.cells #[Value.string nb, Value.string ps, Value.int IntKind.i64 mb, Value.int IntKind.i64 dl, Value.slice p n c]
 28)
 n_1 w1 →
 ∃ (x : ByteArray),
 w1.cell? (Addr.mk n_1 0 none) = some (Value.string x) ∧
 CallsS Tryd.prog 46 #[Value.string x] w1 fun (e : Ending) (w' : World) =>
 ∃ (x : Int),
 ∃ (x_1 : Int),
 e = Ending.returned (Value.tuple #[Value.int IntKind.i64 x, Value.int IntKind.i64 x_1]) ∧
 bsp (x_1 != 0) (R (Ending.returned (Value.int IntKind.i64 x_1)) w')
 (∃ (x : ByteArray),
 w'.cell? (Addr.mk n_1 (0 + 1) none) = some (Value.string x) ∧
 CallsS Tryd.prog 30 #[Value.string x] w' fun (e : Ending) (w' : World) =>
 ∃ (x : Option Addr),
 ∃ (x_2 : Int),
 ∃ (x_3 : Int),
 e =
 Ending.returned
 (Value.tuple #[Value.pointer x, Value.int IntKind.i64 x_2, Value.int IntKind.i64 x_3]) ∧
 bsp (x_3 != 0) (R (Ending.returned (Value.int IntKind.i64 x_3)) w')
 (∃ (x : Int),
 w'.cell? (Addr.mk n_1 (0 + 2) none) = some (Value.int IntKind.i64 x) ∧
 ∃ (x_4 : Int),
 gimp (!decide (x < 0)) (w'.cell? (Addr.mk n_1 (0 + 2) none) = some (Value.int IntKind.i64 x_4)) ∧
 ∃ (x_5 : Int),
 gimp (!(decide (x < 0) || decide (x_4 > 65536)))
 (w'.cell? (Addr.mk n_1 (0 + 3) none) = some (Value.int IntKind.i64 x_5)) ∧
 ∃ (x_6 : Int),
 gimp (!(decide (x < 0) || decide (x_4 > 65536) || decide (x_5 < 0)))
 (w'.cell? (Addr.mk n_1 (0 + 3) none) = some (Value.int IntKind.i64 x_6)) ∧
 bsp (decide (x < 0) || decide (x_4 > 65536) || decide (x_5 < 0) || decide (x_6 > 20160))
 (R (Ending.returned (Value.int IntKind.i64 2)) w')
 (∃ (p : Option Addr),
 ∃ (n : Nat),
 ∃ (c : Nat),
 w'.cell? (Addr.mk n_1 (0 + 4) none) = some (Value.slice p n c) ∧
 bsp (decide ((↑n : Int) > 8)) (R (Ending.returned (Value.int IntKind.i64 9)) w')
 (∃ (p : Option Addr),
 ∃ (n : Nat),
 ∃ (c : Nat),
 w'.cell? (Addr.mk n_1 (0 + 4) none) = some (Value.slice p n c) ∧
 ∃ (I : List Value → World → Prop),
 ∃ (m : List Value → World → Nat),
 I [Value.int IntKind.i64 0] w' ∧
 ∀ (x : Int) (w' : World),
 I [Value.int IntKind.i64 x] w' →
 bsp (decide (x < (↑n : Int)))
 (nn true p fun (b o : Nat) =>
 (0 ≤ x ∧ x < (↑n : Int)) ∧
 ∃ (x_7 : ByteArray),
 w'.cell? (Addr.mk b (o + x.toNat) none) = some (Value.string x_7) ∧
 CallsS Tryd.prog 47 #[Value.string x_7] w'
 fun (e : Ending) (w'_1 : World) =>
 ∃ (x_8 : Bool),
 e = Ending.returned (Value.bool x_8) ∧
 bsp (!x_8) (R (Ending.returned (Value.int IntKind.i64 12)) w'_1)
 (∃ (p : Option Addr),
 ∃ (n : Nat),
 ∃ (c : Nat),
 w'_1.cell? (Addr.mk n_1 (0 + 4) none) = some (Value.slice p n c) ∧
 (0 ≤ x ∧ x ≤ (↑c : Int)) ∧
 CallsS Tryd.prog 42 #[Value.slice p x.toNat c, Value.string x_7]
 w'_1 fun (e : Ending) (w'_2 : World) =>
 ∃ (x_9 : Bool),
 e = Ending.returned (Value.bool x_9) ∧
 bsp x_9 (R (Ending.returned (Value.int IntKind.i64 7)) w'_2)
 (I [Value.int IntKind.i64 (IntKind.i64.wrap (x + 1))] w'_2 ∧
 m [Value.int IntKind.i64 (IntKind.i64.wrap (x + 1))] w'_2 <
 m [Value.int IntKind.i64 x] w')))
 (R (Ending.returned (Value.int IntKind.i64 0)) w')))))
theorem vc_check (nb : ByteArray) (ps : ByteArray) (mb : Int) (dl : Int) (p : Option Addr) (n : Nat) (c : Nat) (w : World) (R : Ending → World → Prop) (h : VC_check nb ps mb dl p n c w R) : Calls Tryd.prog 24 ([Value.agg
    #[Value.string nb, Value.string ps, Value.int IntKind.i64 mb, Value.int IntKind.i64 dl,
      Value.slice p n c]] : List Value).toArray w R := by
  have e : execR { P := Tryd.prog, loops := [(12, [(54, Ck.int IntKind.i64)])], pur := pur1, tails := [], joins := [], boxes := [] } Tryd.f24.results.toList R (Tryd.f24.body.getD .skip) (initF [Value.agg
    #[Value.string nb, Value.string ps, Value.int IntKind.i64 mb, Value.int IntKind.i64 dl,
      Value.slice p n
        c]] (Tryd.f24.ntmps - ([Value.agg
    #[Value.string nb, Value.string ps, Value.int IntKind.i64 mb, Value.int IntKind.i64 dl,
      Value.slice p n c]] : List Value).length)) w = VC_check nb ps mb dl p n c w R := by kernel_rfl
  have hb : Tryd.f24.body = some (Tryd.f24.body.getD .skip) := by kernel_rfl
  exact calls_of_exec' (P := Tryd.prog) (fn := Tryd.f24) (c := Tryd.f24.body.getD .skip) (args := [Value.agg
    #[Value.string nb, Value.string ps, Value.int IntKind.i64 mb, Value.int IntKind.i64 dl,
      Value.slice p n c]]) (w := w) (R := R) pur1_ok Tryd.func24 hb e h

end Go.Proofs.YtcpjajjocmpkjaaDoor
