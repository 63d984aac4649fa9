/- The formulas of functions by the symbolic evaluator, and that each gives the call's contract. Written by a program (gen.py). No condition. -/
import Derived.Test.YtmjanmffnblcoaaGreatDoorProg
import Derived.Test.YtmjanmffnblcoaaGreatDoorZ02
import Derived.Test.YtmjanmffnblcoaaGreatDoorZ08
import Derived.Test.YtmjanmffnblcoaaGreatDoorZ04
import Derived.KernelRfl
import Derived.Test.YtmjanmffnblcoaaGreatDoorZ09
import Derived.Test.YtmjanmffnblcoaaGreatDoorZ11
import Derived.LaidSub
import Derived.Lib.LaidTab
namespace Go.Proofs.YtmjanmffnblcoaaGreatDoor
set_option maxRecDepth 100000
set_option linter.unusedVariables false

def VC_rdecimal (x : Int) (w : World) (R : Ending → World → Prop) : Prop :=
 bsp (decide (x < 10))
 ((0 ≤ x ∧ x ≤ IntKind.i64.wrap (x + 1) ∧ IntKind.i64.wrap (x + 1) ≤ (↑10 : Int)) ∧
 R
 (Ending.returned
 (Value.string
 ((ByteArray.mk #[48, 49, 50, 51, 52, 53, 54, 55, 56, 57]).extract x.toNat (IntKind.i64.wrap (x + 1)).toNat)))
 w)
 (∀ (W : World),
 Loc w.heap.size [] w W →
 ∃ (S : World → Prop),
 S W ∧
 (0 ≤ x.tmod 10 ∧ x.tmod 10 ≤ IntKind.i64.wrap (x.tmod 10 + 1) ∧ IntKind.i64.wrap (x.tmod 10 + 1) ≤ (↑10 : Int)) ∧
 CallsS Tryz.prog 24 #[Value.int IntKind.i64 (IntKind.i64.wrap (x.tdiv 10))] W fun (e : Ending) (w' : World) =>
 ∃ (x_1 : ByteArray),
 e = Ending.returned (Value.string x_1) ∧
 (9223372036854775807 -
 (↑(x_1.size +
 ((ByteArray.mk #[48, 49, 50, 51, 52, 53, 54, 55, 56, 57]).extract (x.tmod 10).toNat
 (IntKind.i64.wrap (x.tmod 10 + 1)).toNat).size) :
 Int)).NonNeg ∧
 KeptL [] W w' ∧
 R
 (Ending.returned
 (Value.string
 (x_1 ++
 (ByteArray.mk #[48, 49, 50, 51, 52, 53, 54, 55, 56, 57]).extract (x.tmod 10).toNat
 (IntKind.i64.wrap (x.tmod 10 + 1)).toNat)))
 w')
theorem vc_rdecimal (x : Int) (w : World) (R : Ending → World → Prop) (h : VC_rdecimal x w R) : Calls Tryz.prog 24 ([Value.int
    IntKind.i64 x] : List Value).toArray w R := by
  have e : execR2 { P := Tryz.prog, loops := [], pur := pur2, tails := [(4, 2)], joins := [], boxes := [] } Tryz.f24.results.toList R (Tryz.f24.body.getD .skip) (initF [Value.int
    IntKind.i64
    x] (Tryz.f24.ntmps - ([Value.int IntKind.i64 x] : List Value).length)) w = VC_rdecimal x w R := by kernel_rfl
  have hb : Tryz.f24.body = some (Tryz.f24.body.getD .skip) := by kernel_rfl
  exact calls_of_exec2' (P := Tryz.prog) (fn := Tryz.f24) (c := Tryz.f24.body.getD .skip) (args := [Value.int
    IntKind.i64 x]) (w := w) (R := R) pur2_ok Tryz.func24 hb e h

def VC_rprint (p : Option Addr) (n : Nat) (c : Nat) (w : World) (R : Ending → World → Prop) : Prop :=
 CallsS Tryz.prog 23 #[Value.slice p n c] w fun (e : Ending) (w' : World) =>
 ∃ (x : Int),
 e = Ending.returned (Value.int IntKind.i64 x) ∧
 KeptL [] w w' ∧
 bsp (x != 0) (R (Ending.returned (Value.tuple #[Value.string (ByteArray.mk #[]), Value.int IntKind.i64 x])) w')
 (∃ (I : List Value → World → Prop),
 ∃ (m : List Value → World → Nat),
 I [Value.int IntKind.i64 0, Value.string (ByteArray.mk #[])] w' ∧
 ∀ (x : Int) (x_1 : ByteArray) (w' : World),
 I [Value.int IntKind.i64 x, Value.string x_1] w' →
 bsp (decide (x < (↑n : Int)))
 (∀ (W : World),
 Loc w.heap.size [] w' W →
 ∃ (S : World → Prop),
 S W ∧
 nn true p fun (b o : Nat) =>
 (0 ≤ x ∧ x < (↑n : Int)) ∧
 ∃ (x_2 : ByteArray),
 (∀ (w' : World), S w' → w'.cell? (Addr.mk b (o + x.toNat * 3) none) = some (Value.string x_2)) ∧
 (9223372036854775807 - (↑(x_1.size + x_2.size) : Int)).NonNeg ∧
 (9223372036854775807 - (↑((x_1 ++ x_2).size + (ByteArray.mk #[32]).size) : Int)).NonNeg ∧
 nn true p fun (b o : Nat) =>
 (0 ≤ x ∧ x < (↑n : Int)) ∧
 ∃ (x_3 : Int),
 (∀ (w' : World),
 S w' → w'.cell? (Addr.mk b (o + x.toNat * 3 + 1) none) = some (Value.int IntKind.i64 x_3)) ∧
 nn true p fun (b o : Nat) =>
 (0 ≤ x ∧ x < (↑n : Int)) ∧
 ∃ (x_4 : Int),
 (∀ (w' : World),
 S w' →
 w'.cell? (Addr.mk b (o + x.toNat * 3 + 2) none) = some (Value.int IntKind.i64 x_4)) ∧
 CallsS Tryz.prog 24 #[Value.int IntKind.i64 x_3] W fun (e : Ending) (w'_1 : World) =>
 ∃ (x_5 : ByteArray),
 e = Ending.returned (Value.string x_5) ∧
 S w'_1 ∧
 (9223372036854775807 -
 (↑((x_1 ++ x_2 ++ ByteArray.mk #[32]).size + x_5.size) : Int)).NonNeg ∧
 (9223372036854775807 -
 (↑((x_1 ++ x_2 ++ ByteArray.mk #[32] ++ x_5).size + (ByteArray.mk #[32]).size) :
 Int)).NonNeg ∧
 CallsS Tryz.prog 24 #[Value.int IntKind.i64 x_4] w'_1
 fun (e : Ending) (w'_2 : World) =>
 ∃ (x_6 : ByteArray),
 e = Ending.returned (Value.string x_6) ∧
 S w'_2 ∧
 (9223372036854775807 -
 (↑((x_1 ++ x_2 ++ ByteArray.mk #[32] ++ x_5 ++ ByteArray.mk #[32]).size +
 x_6.size) :
 Int)).NonNeg ∧
 (9223372036854775807 -
 (↑((x_1 ++ x_2 ++ ByteArray.mk #[32] ++ x_5 ++ ByteArray.mk #[32] ++
 x_6).size +
 (ByteArray.mk #[10]).size) :
 Int)).NonNeg ∧
 KeptL [] W w'_2 ∧
 I
 [Value.int IntKind.i64 (IntKind.i64.wrap (x + 1)),
 Value.string
 (x_1 ++ x_2 ++ ByteArray.mk #[32] ++ x_5 ++ ByteArray.mk #[32] ++ x_6 ++
 ByteArray.mk #[10])]
 w'_2 ∧
 m
 [Value.int IntKind.i64 (IntKind.i64.wrap (x + 1)),
 Value.string
 (x_1 ++ x_2 ++ ByteArray.mk #[32] ++ x_5 ++ ByteArray.mk #[32] ++ x_6 ++
 ByteArray.mk #[10])]
 w'_2 <
 m [Value.int IntKind.i64 x, Value.string x_1] w')
 (R (Ending.returned (Value.tuple #[Value.string x_1, Value.int IntKind.i64 0])) w'))
theorem vc_rprint (p : Option Addr) (n : Nat) (c : Nat) (w : World) (R : Ending → World → Prop) (h : VC_rprint p n c w R) : Calls Tryz.prog 11 ([Value.slice
    p n c] : List Value).toArray w R := by
  have e : execR2 { P := Tryz.prog, loops := [(6, [(6, Ck.int IntKind.i64), (5, Ck.str)])], pur := pur2, tails := [(8, 13)], joins := [], boxes := [] } Tryz.f11.results.toList R (Tryz.f11.body.getD .skip) (initF [Value.slice
    p n c] (Tryz.f11.ntmps - ([Value.slice p n c] : List Value).length)) w = VC_rprint p n c w R := by kernel_rfl
  have hb : Tryz.f11.body = some (Tryz.f11.body.getD .skip) := by kernel_rfl
  exact calls_of_exec2' (P := Tryz.prog) (fn := Tryz.f11) (c := Tryz.f11.body.getD .skip) (args := [Value.slice p n
    c]) (w := w) (R := R) pur2_ok Tryz.func11 hb e h

def VC_rnumber (s : ByteArray) (w : World) (R : Ending → World → Prop) : Prop :=
 gimp (!(s.toList == [] || decide ((↑s.size : Int) > 6))) ((0 : Int) ≤ 0 ∧ 0 < (↑s.size : Int)) ∧
 bsp (s.toList == [] || decide ((↑s.size : Int) > 6) || at8 s 0 == 48 && decide ((↑s.size : Int) > 1))
 (R (Ending.returned (Value.int IntKind.i64 (-1))) w)
 (∃ (I : List Value → World → Prop),
 ∃ (m : List Value → World → Nat),
 I [Value.int IntKind.i64 0, Value.int IntKind.i64 0] w ∧
 ∀ (x x_1 : Int) (w' : World),
 I [Value.int IntKind.i64 x, Value.int IntKind.i64 x_1] w' →
 bsp (decide (x < (↑s.size : Int)))
 ((0 ≤ x ∧ x < (↑s.size : Int)) ∧
 gimp (!decide (at8 s x.toNat < 48)) (0 ≤ x ∧ x < (↑s.size : Int)) ∧
 bsp (decide (at8 s x.toNat < 48) || decide (at8 s x.toNat > 57))
 (R (Ending.returned (Value.int IntKind.i64 (-1))) w')
 ((0 ≤ x ∧ x < (↑s.size : Int)) ∧
 I
 [Value.int IntKind.i64 (IntKind.i64.wrap (x + 1)),
 Value.int IntKind.i64
 (IntKind.i64.wrap
 (IntKind.i64.wrap (10 * x_1) + IntKind.i64.wrap (IntKind.u8.wrap (at8 s x.toNat - 48))))]
 w' ∧
 m
 [Value.int IntKind.i64 (IntKind.i64.wrap (x + 1)),
 Value.int IntKind.i64
 (IntKind.i64.wrap
 (IntKind.i64.wrap (10 * x_1) + IntKind.i64.wrap (IntKind.u8.wrap (at8 s x.toNat - 48))))]
 w' <
 m [Value.int IntKind.i64 x, Value.int IntKind.i64 x_1] w'))
 (R (Ending.returned (Value.int IntKind.i64 x_1)) w'))
theorem vc_rnumber (s : ByteArray) (w : World) (R : Ending → World → Prop) (h : VC_rnumber s w R) : Calls Tryz.prog 17 ([Value.string
    s] : List Value).toArray w R := by
  have e : execR2 { P := Tryz.prog, loops := [(5, [(4, Ck.int IntKind.i64), (3, Ck.int IntKind.i64)])], pur := pur2, tails := [], joins := [], boxes := [] } Tryz.f17.results.toList R (Tryz.f17.body.getD .skip) (initF [Value.string
    s] (Tryz.f17.ntmps - ([Value.string s] : List Value).length)) w = VC_rnumber s w R := by kernel_rfl
  have hb : Tryz.f17.body = some (Tryz.f17.body.getD .skip) := by kernel_rfl
  exact calls_of_exec2' (P := Tryz.prog) (fn := Tryz.f17) (c := Tryz.f17.body.getD .skip) (args := [Value.string
    s]) (w := w) (R := R) pur2_ok Tryz.func17 hb e h

def VC_rparse (s : ByteArray) (w : World) (R : Ending → World → Prop) : Prop :=
 ∃ (I : List Value → World → Prop),
 ∃ (m : List Value → World → Nat),
 I [Value.int IntKind.i64 1, Value.slice none 0 0, Value.int IntKind.i64 0] w ∧
 ∀ (x : Int) (p : Option Addr) (n c : Nat) (x_1 : Int) (w' : World),
 I [Value.int IntKind.i64 x, Value.slice p n c, Value.int IntKind.i64 x_1] w' →
 bsp (decide (x_1 < (↑s.size : Int)))
 (∃ (I_1 : List Value → World → Prop),
 ∃ (m_1 : List Value → World → Nat),
 I_1 [Value.int IntKind.i64 x_1, Value.int IntKind.i64 x_1, Value.slice none 0 0] w' ∧
 ∀ (x_2 x_3 : Int) (p_1 : Option Addr) (n_1 c_1 : Nat) (w'_1 : World),
 I_1 [Value.int IntKind.i64 x_2, Value.int IntKind.i64 x_3, Value.slice p_1 n_1 c_1] w'_1 →
 gimp (decide (x_2 < (↑s.size : Int))) (0 ≤ x_2 ∧ x_2 < (↑s.size : Int)) ∧
 bsp (decide (x_2 < (↑s.size : Int)) && at8 s x_2.toNat != 10)
 ((0 ≤ x_2 ∧ x_2 < (↑s.size : Int)) ∧
 bsp (at8 s x_2.toNat == 32)
 ((0 ≤ x_3 ∧ x_3 ≤ x_2 ∧ x_2 ≤ (↑s.size : Int)) ∧
 ∀ (n : Nat) (W : World),
 Loc w.heap.size [Blk.mk n 9 [Value.string (s.extract x_3.toNat x_2.toNat)] 2] w'_1 W →
 ∃ (base : Nat),
 ∃ (xs : List Value),
 W.ownsRow base 9 1 (Value.slice p_1 n_1 c_1) n_1 xs ∧
 n_1 + 1 ≤ 9223372036854775807 ∧
 (n_1 + 1) * 16 ≤ 140737488355328 ∧
 base ≤ W.heap.size ∧
 ∀ (p' : Option Addr) (c' : Nat) (w' : World),
 w'.ownsRow base 9 1 (Value.slice p' (n_1 + 1) c') (n_1 + 1)
 (xs ++ [Value.string (s.extract x_3.toNat x_2.toNat)]) →
 W.grownBy w' (Value.slice p_1 n_1 c_1).ownBlock →
 (n_1 + 1 ≤ c_1 → p' = p_1 ∧ c' = c_1) →
 KeptL [] W w' ∧
 I_1
 [Value.int IntKind.i64 (IntKind.i64.wrap (x_2 + 1)),
 Value.int IntKind.i64 (IntKind.i64.wrap (x_2 + 1)), Value.slice p' (n_1 + 1) c']
 w' ∧
 m_1
 [Value.int IntKind.i64 (IntKind.i64.wrap (x_2 + 1)),
 Value.int IntKind.i64 (IntKind.i64.wrap (x_2 + 1)), Value.slice p' (n_1 + 1) c']
 w' <
 m_1 [Value.int IntKind.i64 x_2, Value.int IntKind.i64 x_3, Value.slice p_1 n_1 c_1] w'_1)
 (I_1
 [Value.int IntKind.i64 (IntKind.i64.wrap (x_2 + 1)), Value.int IntKind.i64 x_3,
 Value.slice p_1 n_1 c_1]
 w'_1 ∧
 m_1
 [Value.int IntKind.i64 (IntKind.i64.wrap (x_2 + 1)), Value.int IntKind.i64 x_3,
 Value.slice p_1 n_1 c_1]
 w'_1 <
 m_1 [Value.int IntKind.i64 x_2, Value.int IntKind.i64 x_3, Value.slice p_1 n_1 c_1] w'_1))
 ((0 ≤ x_3 ∧ x_3 ≤ x_2 ∧ x_2 ≤ (↑s.size : Int)) ∧
 ∀ (n_2 : Nat) (W : World),
 Loc w.heap.size [Blk.mk n_2 9 [Value.string (s.extract x_3.toNat x_2.toNat)] 2] w'_1 W →
 ∃ (base : Nat),
 ∃ (xs : List Value),
 W.ownsRow base 9 1 (Value.slice p_1 n_1 c_1) n_1 xs ∧
 n_1 + 1 ≤ 9223372036854775807 ∧
 (n_1 + 1) * 16 ≤ 140737488355328 ∧
 base ≤ W.heap.size ∧
 ∀ (p' : Option Addr) (c' : Nat) (w'_2 : World),
 w'_2.ownsRow base 9 1 (Value.slice p' (n_1 + 1) c') (n_1 + 1)
 (xs ++ [Value.string (s.extract x_3.toNat x_2.toNat)]) →
 W.grownBy w'_2 (Value.slice p_1 n_1 c_1).ownBlock →
 (n_1 + 1 ≤ c_1 → p' = p_1 ∧ c' = c_1) →
 KeptL [] W w'_2 ∧
 bsp (x_2 == (↑s.size : Int))
 (R
 (Ending.returned
 (Value.tuple #[Value.slice none 0 0, Value.int IntKind.i64 x, Value.int IntKind.i64 4]))
 w'_2)
 (bsp ((↑n : Int) == 64)
 (R
 (Ending.returned
 (Value.tuple #[Value.slice none 0 0, Value.int IntKind.i64 x, Value.int IntKind.i64 9]))
 w'_2)
 (nn (!(↑(n_1 + 1) : Int) != 3) p' fun (b o : Nat) =>
 gimp (!(↑(n_1 + 1) : Int) != 3) ((0 : Int) ≤ 0 ∧ 0 < (↑(n_1 + 1) : Int)) ∧
 ∃ (x_4 : ByteArray),
 gimp (!(↑(n_1 + 1) : Int) != 3)
 (w'_2.cell? (Addr.mk b o none) = some (Value.string x_4)) ∧
 nn (!((↑(n_1 + 1) : Int) != 3 || x_4.toList == [])) p' fun (b o : Nat) =>
 gimp (!((↑(n_1 + 1) : Int) != 3 || x_4.toList == []))
 ((0 : Int) ≤ 1 ∧ 1 < (↑(n_1 + 1) : Int)) ∧
 ∃ (x_5 : ByteArray),
 gimp (!((↑(n_1 + 1) : Int) != 3 || x_4.toList == []))
 (w'_2.cell? (Addr.mk b (o + 1) none) = some (Value.string x_5)) ∧
 bsp (!((↑(n_1 + 1) : Int) != 3 || x_4.toList == []))
 (CallsS Tryz.prog 17 #[Value.string x_5] w'_2 fun (e : Ending) (w'_3 : World) =>
 ∃ (x_6 : Int),
 e = Ending.returned (Value.int IntKind.i64 x_6) ∧
 KeptL [] w'_2 w'_3 ∧
 nn (!(false || decide (x_6 < 0))) p' fun (b o : Nat) =>
 gimp (!(false || decide (x_6 < 0))) ((0 : Int) ≤ 2 ∧ 2 < (↑(n_1 + 1) : Int)) ∧
 ∃ (x_7 : ByteArray),
 gimp (!(false || decide (x_6 < 0)))
 (w'_3.cell? (Addr.mk b (o + 2) none) = some (Value.string x_7)) ∧
 bsp (!(false || decide (x_6 < 0)))
 (CallsS Tryz.prog 17 #[Value.string x_7] w'_3
 fun (e : Ending) (w'_4 : World) =>
 ∃ (x_8 : Int),
 e = Ending.returned (Value.int IntKind.i64 x_8) ∧
 KeptL [] w'_3 w'_4 ∧
 bsp (false || decide (x_8 < 0))
 (R
 (Ending.returned
 (Value.tuple
 #[Value.slice none 0 0, Value.int IntKind.i64 x,
 Value.int IntKind.i64 3]))
 w'_4)
 (∀ (W : World),
 Loc w.heap.size [] w'_4 W →
 ∃ (S : World → Prop),
 S W ∧
 nn true p' fun (b o : Nat) =>
 ((0 : Int) ≤ 0 ∧ 0 < (↑(n_1 + 1) : Int)) ∧
 ∃ (x_9 : ByteArray),
 (∀ (w' : World),
 S w' →
 w'.cell? (Addr.mk b o none) = some (Value.string x_9)) ∧
 nn true p' fun (b o : Nat) =>
 ((0 : Int) ≤ 1 ∧ 1 < (↑(n_1 + 1) : Int)) ∧
 ∃ (x_10 : ByteArray),
 (∀ (w' : World),
 S w' →
 w'.cell? (Addr.mk b (o + 1) none) =
 some (Value.string x_10)) ∧
 nn true p' fun (b o : Nat) =>
 ((0 : Int) ≤ 2 ∧ 2 < (↑(n_1 + 1) : Int)) ∧
 ∃ (x_11 : ByteArray),
 (∀ (w' : World),
 S w' →
 w'.cell? (Addr.mk b (o + 2) none) =
 some (Value.string x_11)) ∧
 (CallsS Tryz.prog 17 #[Value.string x_10] W
 fun (e : Ending) (w'_5 : World) =>
 ∃ (x_12 : Int),
 e =
 Ending.returned (Value.int IntKind.i64 x_12) ∧
 S w'_5 ∧
 (CallsS Tryz.prog 17 #[Value.string x_11] w'_5
 fun (e : Ending) (w'_6 : World) =>
 ∃ (x_13 : Int),
 e =
 Ending.returned
 (Value.int IntKind.i64 x_13) ∧
 S w'_6 ∧
 ∀ (n_3 : Nat) (w1 : World),
 NewB w'_6
 (Obj.cells
 #[Value.string (ByteArray.mk #[]),
 Value.int IntKind.i64 0,
 Value.int IntKind.i64 0]
 33)
 n_3 w1 →
 S w1 ∧
 WrL w1 n_3 0 3 ∧
 ∀ (w1_1 : World),
 PutB w1 n_3 0
 [Value.string x_9,
 Value.int IntKind.i64 x_12,
 Value.int IntKind.i64 x_13]
 w1_1 →
 KeptL [] W w1_1 ∧
 ∃ (x_14 : ByteArray),
 ∃ (x_15 : Int),
 ∃ (x_16 : Int),
 AtL w1_1 n_3 0
 [Value.string x_14,
 Value.int IntKind.i64 x_15,
 Value.int IntKind.i64 x_16] ∧
 CallsS Tryz.prog 18
 #[Value.agg
 #[Value.string x_14,
 Value.int IntKind.i64 x_15,
 Value.int IntKind.i64
 x_16]]
 w1_1
 fun (e : Ending)
 (w'_7 : World) =>
 ∃ (x_17 : Int),
 e =
 Ending.returned
 (Value.int IntKind.i64
 x_17) ∧
 KeptL [] w1_1 w'_7 ∧
 bsp (x_17 != 0)
 (R
 (Ending.returned
 (Value.tuple
 #[Value.slice none 0 0,
 Value.int IntKind.i64
 x,
 Value.int IntKind.i64
 x_17]))
 w'_7)
 (∃ (x_18 : ByteArray),
 ∃ (x_19 : Int),
 ∃ (x_20 : Int),
 AtL w'_7 n_3 0
 [Value.string x_18,
 Value.int
 IntKind.i64 x_19,
 Value.int
 IntKind.i64 x_20] ∧
 ∀ (n_4 : Nat)
 (W : World),
 Loc w.heap.size
 [Blk.mk n_4 33
 [Value.string
 x_18,
 Value.int
 IntKind.i64
 x_19,
 Value.int
 IntKind.i64
 x_20]
 2]
 w'_7 W →
 ∃ (base : Nat),
 ∃ (xs :
 List Value),
 W.ownsRow base 33
 3
 (Value.slice p n
 c)
 n xs ∧
 n + 1 ≤
 9223372036854775807 ∧
 (n + 1) * 32 ≤
 140737488355328 ∧
 base ≤
 W.heap.size ∧
 ∀
 (p' :
 Option Addr)
 (c' : Nat)
 (w'_8 :
 World),
 w'_8.ownsRow
 base 33 3
 (Value.slice
 p' (n + 1)
 c')
 (n + 1)
 (xs ++
 [Value.string
 x_18,
 Value.int
 IntKind.i64
 x_19,
 Value.int
 IntKind.i64
 x_20]) →
 W.grownBy
 w'_8
 (Value.slice
 p n
 c).ownBlock →
 (n + 1 ≤
 c →
 p' = p ∧
 c' =
 c) →
 KeptL [] W
 w'_8 ∧
 I
 [Value.int
 IntKind.i64
 (IntKind.i64.wrap
 (x +
 1)),
 Value.slice
 p'
 (n +
 1)
 c',
 Value.int
 IntKind.i64
 (IntKind.i64.wrap
 (x_2 +
 1))]
 w'_8 ∧
 m
 [Value.int
 IntKind.i64
 (IntKind.i64.wrap
 (x +
 1)),
 Value.slice
 p'
 (n +
 1)
 c',
 Value.int
 IntKind.i64
 (IntKind.i64.wrap
 (x_2 +
 1))]
 w'_8 <
 m
 [Value.int
 IntKind.i64
 x,
 Value.slice
 p n
 c,
 Value.int
 IntKind.i64
 x_1]
 w')) ∧
 ∀ (n_3 : Nat) (w1 : World),
 NewB w'_5
 (Obj.cells
 #[Value.string (ByteArray.mk #[]),
 Value.int IntKind.i64 0,
 Value.int IntKind.i64 0]
 33)
 n_3 w1 →
 S w1 ∧
 CallsS Tryz.prog 17 #[Value.string x_11] w1
 fun (e : Ending) (w'_6 : World) =>
 ∃ (x_13 : Int),
 e =
 Ending.returned
 (Value.int IntKind.i64 x_13) ∧
 S w'_6 ∧
 WrL w'_6 n_3 0 3 ∧
 ∀ (w1 : World),
 PutB w'_6 n_3 0
 [Value.string x_9,
 Value.int IntKind.i64 x_12,
 Value.int IntKind.i64 x_13]
 w1 →
 KeptL [] W w1 ∧
 ∃ (x_14 : ByteArray),
 ∃ (x_15 : Int),
 ∃ (x_16 : Int),
 AtL w1 n_3 0
 [Value.string x_14,
 Value.int IntKind.i64 x_15,
 Value.int IntKind.i64 x_16] ∧
 CallsS Tryz.prog 18
 #[Value.agg
 #[Value.string x_14,
 Value.int IntKind.i64 x_15,
 Value.int IntKind.i64
 x_16]]
 w1
 fun (e : Ending)
 (w'_7 : World) =>
 ∃ (x_17 : Int),
 e =
 Ending.returned
 (Value.int IntKind.i64
 x_17) ∧
 KeptL [] w1 w'_7 ∧
 bsp (x_17 != 0)
 (R
 (Ending.returned
 (Value.tuple
 #[Value.slice none 0 0,
 Value.int IntKind.i64
 x,
 Value.int IntKind.i64
 x_17]))
 w'_7)
 (∃ (x_18 : ByteArray),
 ∃ (x_19 : Int),
 ∃ (x_20 : Int),
 AtL w'_7 n_3 0
 [Value.string x_18,
 Value.int
 IntKind.i64 x_19,
 Value.int
 IntKind.i64 x_20] ∧
 ∀ (n_4 : Nat)
 (W : World),
 Loc w.heap.size
 [Blk.mk n_4 33
 [Value.string
 x_18,
 Value.int
 IntKind.i64
 x_19,
 Value.int
 IntKind.i64
 x_20]
 2]
 w'_7 W →
 ∃ (base : Nat),
 ∃ (xs :
 List Value),
 W.ownsRow base 33
 3
 (Value.slice p n
 c)
 n xs ∧
 n + 1 ≤
 9223372036854775807 ∧
 (n + 1) * 32 ≤
 140737488355328 ∧
 base ≤
 W.heap.size ∧
 ∀
 (p' :
 Option Addr)
 (c' : Nat)
 (w'_8 :
 World),
 w'_8.ownsRow
 base 33 3
 (Value.slice
 p' (n + 1)
 c')
 (n + 1)
 (xs ++
 [Value.string
 x_18,
 Value.int
 IntKind.i64
 x_19,
 Value.int
 IntKind.i64
 x_20]) →
 W.grownBy
 w'_8
 (Value.slice
 p n
 c).ownBlock →
 (n + 1 ≤
 c →
 p' = p ∧
 c' =
 c) →
 KeptL [] W
 w'_8 ∧
 I
 [Value.int
 IntKind.i64
 (IntKind.i64.wrap
 (x +
 1)),
 Value.slice
 p'
 (n +
 1)
 c',
 Value.int
 IntKind.i64
 (IntKind.i64.wrap
 (x_2 +
 1))]
 w'_8 ∧
 m
 [Value.int
 IntKind.i64
 (IntKind.i64.wrap
 (x +
 1)),
 Value.slice
 p'
 (n +
 1)
 c',
 Value.int
 IntKind.i64
 (IntKind.i64.wrap
 (x_2 +
 1))]
 w'_8 <
 m
 [Value.int
 IntKind.i64
 x,
 Value.slice
 p n
 c,
 Value.int
 IntKind.i64
 x_1]
 w')) ∧
 ∀ (n_3 : Nat) (w1 : World),
 NewB W
 (Obj.cells
 #[Value.string (ByteArray.mk #[]),
 Value.int IntKind.i64 0,
 Value.int IntKind.i64 0]
 33)
 n_3 w1 →
 S w1 ∧
 CallsS Tryz.prog 17 #[Value.string x_10] w1
 fun (e : Ending) (w'_5 : World) =>
 ∃ (x_12 : Int),
 e =
 Ending.returned
 (Value.int IntKind.i64 x_12) ∧
 S w'_5 ∧
 CallsS Tryz.prog 17 #[Value.string x_11]
 w'_5 fun (e : Ending) (w'_6 : World) =>
 ∃ (x_13 : Int),
 e =
 Ending.returned
 (Value.int IntKind.i64 x_13) ∧
 S w'_6 ∧
 WrL w'_6 n_3 0 3 ∧
 ∀ (w1 : World),
 PutB w'_6 n_3 0
 [Value.string x_9,
 Value.int IntKind.i64 x_12,
 Value.int IntKind.i64 x_13]
 w1 →
 KeptL [] W w1 ∧
 ∃ (x_14 : ByteArray),
 ∃ (x_15 : Int),
 ∃ (x_16 : Int),
 AtL w1 n_3 0
 [Value.string x_14,
 Value.int IntKind.i64 x_15,
 Value.int IntKind.i64 x_16] ∧
 CallsS Tryz.prog 18
 #[Value.agg
 #[Value.string x_14,
 Value.int IntKind.i64 x_15,
 Value.int IntKind.i64 x_16]]
 w1
 fun (e : Ending)
 (w'_7 : World) =>
 ∃ (x_17 : Int),
 e =
 Ending.returned
 (Value.int IntKind.i64
 x_17) ∧
 KeptL [] w1 w'_7 ∧
 bsp (x_17 != 0)
 (R
 (Ending.returned
 (Value.tuple
 #[Value.slice none 0 0,
 Value.int IntKind.i64
 x,
 Value.int IntKind.i64
 x_17]))
 w'_7)
 (∃ (x_18 : ByteArray),
 ∃ (x_19 : Int),
 ∃ (x_20 : Int),
 AtL w'_7 n_3 0
 [Value.string x_18,
 Value.int IntKind.i64
 x_19,
 Value.int IntKind.i64
 x_20] ∧
 ∀ (n_4 : Nat)
 (W : World),
 Loc w.heap.size
 [Blk.mk n_4 33
 [Value.string
 x_18,
 Value.int
 IntKind.i64
 x_19,
 Value.int
 IntKind.i64
 x_20]
 2]
 w'_7 W →
 ∃ (base : Nat),
 ∃ (xs : List Value),
 W.ownsRow base 33 3
 (Value.slice p n
 c)
 n xs ∧
 n + 1 ≤
 9223372036854775807 ∧
 (n + 1) * 32 ≤
 140737488355328 ∧
 base ≤
 W.heap.size ∧
 ∀
 (p' :
 Option Addr)
 (c' : Nat)
 (w'_8 :
 World),
 w'_8.ownsRow
 base 33 3
 (Value.slice
 p' (n + 1)
 c')
 (n + 1)
 (xs ++
 [Value.string
 x_18,
 Value.int
 IntKind.i64
 x_19,
 Value.int
 IntKind.i64
 x_20]) →
 W.grownBy
 w'_8
 (Value.slice
 p n
 c).ownBlock →
 (n + 1 ≤ c →
 p' = p ∧
 c' = c) →
 KeptL [] W
 w'_8 ∧
 I
 [Value.int
 IntKind.i64
 (IntKind.i64.wrap
 (x +
 1)),
 Value.slice
 p'
 (n +
 1)
 c',
 Value.int
 IntKind.i64
 (IntKind.i64.wrap
 (x_2 +
 1))]
 w'_8 ∧
 m
 [Value.int
 IntKind.i64
 (IntKind.i64.wrap
 (x +
 1)),
 Value.slice
 p'
 (n +
 1)
 c',
 Value.int
 IntKind.i64
 (IntKind.i64.wrap
 (x_2 +
 1))]
 w'_8 <
 m
 [Value.int
 IntKind.i64
 x,
 Value.slice
 p n
 c,
 Value.int
 IntKind.i64
 x_1]
 w')))
 (KeptL [] w'_3 w'_3 ∧
 R
 (Ending.returned
 (Value.tuple
 #[Value.slice none 0 0, Value.int IntKind.i64 x,
 Value.int IntKind.i64 3]))
 w'_3))
 (KeptL [] w'_2 w'_2 ∧
 nn (!true) p' fun (b o : Nat) =>
 True ∧
 ∃ (x_6 : ByteArray),
 True ∧
 KeptL [] w'_2 w'_2 ∧
 R
 (Ending.returned
 (Value.tuple
 #[Value.slice none 0 0, Value.int IntKind.i64 x,
 Value.int IntKind.i64 3]))
 w'_2)))))
 (R (Ending.returned (Value.tuple #[Value.slice p n c, Value.int IntKind.i64 0, Value.int IntKind.i64 0])) w')
theorem vc_rparse (s : ByteArray) (w : World) (R : Ending → World → Prop) (h : VC_rparse s w R) : Calls Tryz.prog 7 ([Value.string
    s] : List Value).toArray w R := by
  have e : execR2 { P := Tryz.prog, loops := [(4, [(7, Ck.int IntKind.i64), (5, Ck.slice), (6, Ck.int IntKind.i64)]), (8, [(10, Ck.int IntKind.i64), (9, Ck.int IntKind.i64), (8, Ck.slice)])], pur := pur2, tails := [(20, 6)], joins := [], boxes := [] } Tryz.f7.results.toList R (Tryz.f7.body.getD .skip) (initF [Value.string
    s] (Tryz.f7.ntmps - ([Value.string s] : List Value).length)) w = VC_rparse s w R := by kernel_rfl
  have hb : Tryz.f7.body = some (Tryz.f7.body.getD .skip) := by kernel_rfl
  exact calls_of_exec2' (P := Tryz.prog) (fn := Tryz.f7) (c := Tryz.f7.body.getD .skip) (args := [Value.string
    s]) (w := w) (R := R) pur2_ok Tryz.func7 hb e h

def VC_sameRules (p : Option Addr) (n : Nat) (c : Nat) (q : Option Addr) (k : Nat) (d : Nat) (w : World) (R : Ending → World → Prop) : Prop :=
 bsp ((↑n : Int) != (↑k : Int)) (R (Ending.returned (Value.bool false)) w)
 (∃ (I : List Value → World → Prop),
 ∃ (m : List Value → World → Nat),
 I [Value.int IntKind.i64 0] w ∧
 ∀ (x : Int) (w' : World),
 I [Value.int IntKind.i64 x] w' →
 bsp (decide (x < (↑n : Int)))
 (nn true p fun (b o : Nat) =>
 (0 ≤ x ∧ x < (↑n : Int)) ∧
 ∃ (x_1 : ByteArray),
 (∀ (W : World),
 Loc w.heap.size [] w' W → W.cell? (Addr.mk b (o + x.toNat * 3) none) = some (Value.string x_1)) ∧
 nn true q fun (b o : Nat) =>
 (0 ≤ x ∧ x < (↑k : Int)) ∧
 ∃ (x_2 : ByteArray),
 (∀ (W : World),
 Loc w.heap.size [] w' W → W.cell? (Addr.mk b (o + x.toNat * 3) none) = some (Value.string x_2)) ∧
 nn (!!x_1.toList == x_2.toList) p fun (b o : Nat) =>
 gimp (!!x_1.toList == x_2.toList) (0 ≤ x ∧ x < (↑n : Int)) ∧
 ∃ (x_3 : Int),
 gimp (!!x_1.toList == x_2.toList)
 (∀ (W : World),
 Loc w.heap.size [] w' W →
 W.cell? (Addr.mk b (o + x.toNat * 3 + 1) none) = some (Value.int IntKind.i64 x_3)) ∧
 nn (!!x_1.toList == x_2.toList) q fun (b o : Nat) =>
 gimp (!!x_1.toList == x_2.toList) (0 ≤ x ∧ x < (↑k : Int)) ∧
 ∃ (x_4 : Int),
 gimp (!!x_1.toList == x_2.toList)
 (∀ (W : World),
 Loc w.heap.size [] w' W →
 W.cell? (Addr.mk b (o + x.toNat * 3 + 1) none) = some (Value.int IntKind.i64 x_4)) ∧
 nn (!(!x_1.toList == x_2.toList || x_3 != x_4)) p fun (b o : Nat) =>
 gimp (!(!x_1.toList == x_2.toList || x_3 != x_4)) (0 ≤ x ∧ x < (↑n : Int)) ∧
 ∃ (x_5 : Int),
 gimp (!(!x_1.toList == x_2.toList || x_3 != x_4))
 (∀ (W : World),
 Loc w.heap.size [] w' W →
 W.cell? (Addr.mk b (o + x.toNat * 3 + 2) none) = some (Value.int IntKind.i64 x_5)) ∧
 nn (!(!x_1.toList == x_2.toList || x_3 != x_4)) q fun (b o : Nat) =>
 gimp (!(!x_1.toList == x_2.toList || x_3 != x_4)) (0 ≤ x ∧ x < (↑k : Int)) ∧
 ∃ (x_6 : Int),
 gimp (!(!x_1.toList == x_2.toList || x_3 != x_4))
 (∀ (W : World),
 Loc w.heap.size [] w' W →
 W.cell? (Addr.mk b (o + x.toNat * 3 + 2) none) = some (Value.int IntKind.i64 x_6)) ∧
 bsp (!x_1.toList == x_2.toList || x_3 != x_4 || x_5 != x_6)
 (∀ (W : World), Loc w.heap.size [] w' W → R (Ending.returned (Value.bool false)) W)
 (∀ (W : World),
 Loc w.heap.size [] w' W →
 I [Value.int IntKind.i64 (IntKind.i64.wrap (x + 1))] W ∧
 m [Value.int IntKind.i64 (IntKind.i64.wrap (x + 1))] W <
 m [Value.int IntKind.i64 x] w'))
 (R (Ending.returned (Value.bool true)) w'))
theorem vc_sameRules (p : Option Addr) (n : Nat) (c : Nat) (q : Option Addr) (k : Nat) (d : Nat) (w : World) (R : Ending → World → Prop) (h : VC_sameRules p n c q k d w R) : Calls Tryz.prog 8 ([Value.slice
    p n c,
  Value.slice q k d] : List Value).toArray w R := by
  have e : execR2 { P := Tryz.prog, loops := [(4, [(5, Ck.int IntKind.i64)])], pur := pur2, tails := [], joins := [], boxes := [] } Tryz.f8.results.toList R (Tryz.f8.body.getD .skip) (initF [Value.slice
    p n c,
  Value.slice q k
    d] (Tryz.f8.ntmps - ([Value.slice p n c,
  Value.slice q k d] : List Value).length)) w = VC_sameRules p n c q k d w R := by kernel_rfl
  have hb : Tryz.f8.body = some (Tryz.f8.body.getD .skip) := by kernel_rfl
  exact calls_of_exec2' (P := Tryz.prog) (fn := Tryz.f8) (c := Tryz.f8.body.getD .skip) (args := [Value.slice p n c,
  Value.slice q k d]) (w := w) (R := R) pur2_ok Tryz.func8 hb e h

def VC_lexparse (s : ByteArray) (w : World) (R : Ending → World → Prop) : Prop :=
 CallsS Tryz.prog 5 #[] w fun (e : Ending) (w' : World) =>
 ∃ (x : Bool),
 e = Ending.returned (Value.bool x) ∧
 KeptL [] w w' ∧
 bsp (!x || decide ((↑s.size : Int) > 600))
 (CallsS Tryz.prog 5 #[] w' fun (e : Ending) (w'_1 : World) =>
 ∃ (x : Bool), e = Ending.returned (Value.bool x) ∧ KeptL [] w' w'_1 ∧ R (Ending.returned (Value.bool x)) w'_1)
 (CallsS Tryz.prog 6 #[Value.string s] w' fun (e : Ending) (w'_1 : World) =>
 ∃ (p : Option Addr),
 ∃ (n : Nat),
 ∃ (c : Nat),
 ∃ (x : Int),
 ∃ (x_1 : Int),
 e = Ending.returned (Value.tuple #[Value.slice p n c, Value.int IntKind.i64 x, Value.int IntKind.i64 x_1]) ∧
 KeptL [] w' w'_1 ∧
 CallsS Tryz.prog 7 #[Value.string s] w'_1 fun (e : Ending) (w' : World) =>
 ∃ (p_1 : Option Addr),
 ∃ (n_1 : Nat),
 ∃ (c_1 : Nat),
 ∃ (x_2 : Int),
 ∃ (x_3 : Int),
 e =
 Ending.returned
 (Value.tuple #[Value.slice p_1 n_1 c_1, Value.int IntKind.i64 x_2, Value.int IntKind.i64 x_3]) ∧
 KeptL [] w'_1 w' ∧
 CallsS Tryz.prog 8 #[Value.slice p n c, Value.slice p_1 n_1 c_1] w'
 fun (e : Ending) (w'_2 : World) =>
 ∃ (x_4 : Bool),
 e = Ending.returned (Value.bool x_4) ∧
 KeptL [] w' w'_2 ∧ R (Ending.returned (Value.bool (x_4 && x == x_2 && x_1 == x_3))) w'_2)
theorem vc_lexparse (s : ByteArray) (w : World) (R : Ending → World → Prop) (h : VC_lexparse s w R) : Calls Tryz.prog 3 ([Value.string
    s] : List Value).toArray w R := by
  have e : execR2 { P := Tryz.prog, loops := [], pur := pur2, tails := [], joins := [], boxes := [] } Tryz.f3.results.toList R (Tryz.f3.body.getD .skip) (initF [Value.string
    s] (Tryz.f3.ntmps - ([Value.string s] : List Value).length)) w = VC_lexparse s w R := by kernel_rfl
  have hb : Tryz.f3.body = some (Tryz.f3.body.getD .skip) := by kernel_rfl
  exact calls_of_exec2' (P := Tryz.prog) (fn := Tryz.f3) (c := Tryz.f3.body.getD .skip) (args := [Value.string
    s]) (w := w) (R := R) pur2_ok Tryz.func3 hb e h

def VC_lextext (p : Option Addr) (n : Nat) (c : Nat) (w : World) (R : Ending → World → Prop) : Prop :=
 CallsS Tryz.prog 5 #[] w fun (e : Ending) (w' : World) =>
 ∃ (x : Bool),
 e = Ending.returned (Value.bool x) ∧
 KeptL [] w w' ∧
 bsp (!x || decide ((↑n : Int) > 80))
 (CallsS Tryz.prog 5 #[] w' fun (e : Ending) (w'_1 : World) =>
 ∃ (x : Bool), e = Ending.returned (Value.bool x) ∧ KeptL [] w' w'_1 ∧ R (Ending.returned (Value.bool x)) w'_1)
 (∃ (I : List Value → World → Prop),
 ∃ (m : List Value → World → Nat),
 I [Value.int IntKind.i64 0] w' ∧
 ∀ (x : Int) (w' : World),
 I [Value.int IntKind.i64 x] w' →
 bsp (decide (x < (↑n : Int)))
 (nn true p fun (b o : Nat) =>
 (0 ≤ x ∧ x < (↑n : Int)) ∧
 ∃ (x_1 : ByteArray),
 w'.cell? (Addr.mk b (o + x.toNat * 3) none) = some (Value.string x_1) ∧
 bsp (decide ((↑x_1.size : Int) > 100)) (R (Ending.returned (Value.bool true)) w')
 (I [Value.int IntKind.i64 (IntKind.i64.wrap (x + 1))] w' ∧
 m [Value.int IntKind.i64 (IntKind.i64.wrap (x + 1))] w' < m [Value.int IntKind.i64 x] w'))
 (CallsS Tryz.prog 10 #[Value.slice p n c] w' fun (e : Ending) (w'_1 : World) =>
 ∃ (p_1 : Option Addr),
 ∃ (n_1 : Nat),
 ∃ (c_1 : Nat),
 e = Ending.returned (Value.slice p_1 n_1 c_1) ∧
 KeptL [] w' w'_1 ∧
 CallsS Tryz.prog 9 #[Value.slice p_1 n_1 c_1] w'_1 fun (e : Ending) (w' : World) =>
 ∃ (x : ByteArray),
 ∃ (x_1 : Int),
 e = Ending.returned (Value.tuple #[Value.string x, Value.int IntKind.i64 x_1]) ∧
 KeptL [] w'_1 w' ∧
 CallsS Tryz.prog 11 #[Value.slice p n c] w' fun (e : Ending) (w'_2 : World) =>
 ∃ (x_2 : ByteArray),
 ∃ (x_3 : Int),
 e = Ending.returned (Value.tuple #[Value.string x_2, Value.int IntKind.i64 x_3]) ∧
 KeptL [] w' w'_2 ∧
 bsp (!x.toList == x_2.toList || x_1 != x_3) (R (Ending.returned (Value.bool false)) w'_2)
 (bsp (x_1 != 0) (R (Ending.returned (Value.bool true)) w'_2)
 (CallsS Tryz.prog 6 #[Value.string x] w'_2 fun (e : Ending) (w' : World) =>
 ∃ (p_2 : Option Addr),
 ∃ (n_2 : Nat),
 ∃ (c_2 : Nat),
 ∃ (x : Int),
 ∃ (x_4 : Int),
 e =
 Ending.returned
 (Value.tuple
 #[Value.slice p_2 n_2 c_2, Value.int IntKind.i64 x, Value.int IntKind.i64 x_4]) ∧
 KeptL [] w'_2 w' ∧
 bsp (x_4 == 0 && x == 0)
 (CallsS Tryz.prog 8 #[Value.slice p_2 n_2 c_2, Value.slice p n c] w'
 fun (e : Ending) (w'_3 : World) =>
 ∃ (x : Bool),
 e = Ending.returned (Value.bool x) ∧
 KeptL [] w' w'_3 ∧ R (Ending.returned (Value.bool (true && x))) w'_3)
 (KeptL [] w' w' ∧ R (Ending.returned (Value.bool false)) w')))))
theorem vc_lextext (p : Option Addr) (n : Nat) (c : Nat) (w : World) (R : Ending → World → Prop) (h : VC_lextext p n c w R) : Calls Tryz.prog 4 ([Value.slice
    p n c] : List Value).toArray w R := by
  have e : execR2 { P := Tryz.prog, loops := [(4, [(3, Ck.int IntKind.i64)])], pur := pur2, tails := [], joins := [], boxes := [] } Tryz.f4.results.toList R (Tryz.f4.body.getD .skip) (initF [Value.slice
    p n c] (Tryz.f4.ntmps - ([Value.slice p n c] : List Value).length)) w = VC_lextext p n c w R := by kernel_rfl
  have hb : Tryz.f4.body = some (Tryz.f4.body.getD .skip) := by kernel_rfl
  exact calls_of_exec2' (P := Tryz.prog) (fn := Tryz.f4) (c := Tryz.f4.body.getD .skip) (args := [Value.slice p n
    c]) (w := w) (R := R) pur2_ok Tryz.func4 hb e h

end Go.Proofs.YtmjanmffnblcoaaGreatDoor

/- Chapter 42: the contracts of the reference's decimal and Print. Numbers of at most 10^6. -/
namespace Go.Proofs.YtmjanmffnblcoaaGreatDoor
open Go.RowKit

theorem digs_ext : ∀ u : Fin 10, ((⟨#[48, 49, 50, 51, 52, 53, 54, 55, 56, 57]⟩ : ByteArray).extract u.val (u.val + 1)) = ⟨#[UInt8.ofNat (48 + u.val)]⟩ := by decide +kernel
theorem rdecimal_any (u : Nat) : ∀ (w : World), u ≤ 1000000 → Calls Tryz.prog 24 #[.int .i64 u] w fun e w' => e = .returned (.string (decT u)) ∧ K0 w w' := by
  induction u using Nat.strongRecOn with
  | _ u ih =>
    intro w hu
    refine vc_rdecimal u w _ (bsp_intro (fun h => ?_) (fun h => ?_))
    · have h : u < 10 := by simp at h; omega
      rw [inc64 (by omega), Int.toNat_natCast, Int.toNat_natCast, digs_ext ⟨u, h⟩]
      exact ⟨⟨by omega, by omega, by omega⟩, by rw [decT_small h], .refl _ _⟩
    · have h : ¬ u < 10 := by simp at h; omega
      have e1 : ((u : Int)).tdiv 10 = ((u / 10 : Nat) : Int) := by rw [Int.tdiv_eq_ediv_of_nonneg (by omega)]; omega
      have e2 : ((u : Int)).tmod 10 = ((u % 10 : Nat) : Int) := by rw [Int.tmod_eq_emod_of_nonneg (by omega)]; omega
      intro W hW
      have kW : K0 w W := hW.kk rfl
      rw [e1, e2, wr64 (x := ((u / 10 : Nat) : Int)) (by omega) (by omega), inc64 (by omega), Int.toNat_natCast, Int.toNat_natCast, digs_ext ⟨u % 10, by omega⟩]
      refine ⟨fun wx => K0 W wx, .refl _ _, ⟨by omega, by omega, by omega⟩, ⟨(ih (u / 10) (by omega) W (by omega)).mono fun e w1 ⟨he, k1⟩ => ⟨_, he, ?_, .of_k0 k1, by rw [decT_big h], kW.trans k1⟩⟩⟩
      have := decT_len (u := u / 10) (by omega)
      exact nneg (by rw [size_one]; omega)

theorem rprint_any (L : List Rl) (p : Option Addr) (c : Nat) (w : World) (hR : RowA rlC 3 w p L) :
    Calls Tryz.prog 11 #[.slice p L.length c] w fun e w' => e = .returned (.tuple #[.string (if chkR L = 0 then txtF L else ⟨#[]⟩), .int .i64 (chkR L)]) ∧ K0 w w' := by
  refine vc_rprint p L.length c w _ ⟨(xcheck_any L p c w hR).mono fun e w1 ⟨he, k1⟩ => ⟨_, he, .of_k0 k1, bsp_intro (fun h0 => ?_) (fun h0 => ?_)⟩⟩
  · have h0 : ¬ chkR L = 0 := by simpa using h0
    rw [if_neg h0]
    exact ⟨rfl, k1⟩
  have h0 : chkR L = 0 := by simpa using h0
  have h64 := chkR_len h0
  have hF : rlF L = 0 := by
    unfold chkR at h0
    split at h0
    · cases h0
    · exact h0
  rw [if_pos h0, h0]
  refine ⟨fun vs w' => ∃ i : Nat, vs = [.int .i64 (i : Int), .string (txtF (L.take i))] ∧ i ≤ L.length ∧ K0 w w',
    fun vs _ => (match vs with | .int _ x :: _ => L.length - x.toNat | _ => 0), ⟨0, rfl, by omega, k1⟩, ?_⟩
  rintro x s w2 ⟨i, hv, hi, k2⟩
  simp only [List.cons.injEq, Value.int.injEq, Value.string.injEq, true_and, and_true] at hv
  obtain ⟨rfl, rfl⟩ := hv
  refine bsp_intro (fun hlt => ?_) (fun hge => ?_)
  · have hlt : i < L.length := by simp at hlt; omega
    intro W hW
    have kW : K0 w2 W := hW.kk rfl
    obtain ⟨r, b, o, hr, hp, hat⟩ := (hR.k0 (k2.trans kW)).get hlt
    have hr1 := rlF_get hF hr
    obtain ⟨⟨z1, _, _⟩, z2, z3, z4, z5⟩ := rl1_fit hr1
    have el : ((r.lo.toNat : Nat) : Int) = r.lo := by omega
    have eh : ((r.hi.toNat : Nat) : Int) = r.hi := by omega
    have dl := decT_len (u := r.lo.toNat) (by omega)
    have dh := decT_len (u := r.hi.toNat) (by omega)
    have hle := txtF_le (i := i) hF
    rw [Int.toNat_natCast]
    refine ⟨fun wx => K0 W wx, .refl _ _, nn_is hp ⟨⟨by omega, by omega⟩, r.pat, fun wx k => by simpa using (hat.k0 k).cell (j := 0) rfl, nneg (by omega), nneg (by simp only [ByteArray.size_append, size_one]; omega),
      nn_is hp ⟨⟨by omega, by omega⟩, r.lo, fun wx k => (hat.k0 k).cell (j := 1) rfl, nn_is hp ⟨⟨by omega, by omega⟩, r.hi, fun wx k => (hat.k0 k).cell (j := 2) rfl, ?_⟩⟩⟩⟩
    have hd := rdecimal_any r.lo.toNat W (by omega)
    rw [el] at hd
    refine ⟨hd.mono fun e w4 ⟨he4, k4⟩ => ⟨_, he4, k4, nneg (by simp only [ByteArray.size_append, size_one]; omega), nneg (by simp only [ByteArray.size_append, size_one]; omega), ?_⟩⟩
    have hd' := rdecimal_any r.hi.toNat w4 (by omega)
    rw [eh] at hd'
    refine ⟨hd'.mono fun e w5 ⟨he5, k5⟩ => ⟨_, he5, k4.trans k5, nneg (by simp only [ByteArray.size_append, size_one]; omega), nneg (by simp only [ByteArray.size_append, size_one]; omega), .of_k0 (k4.trans k5), ⟨i + 1, ?_, hlt, (k2.trans kW).trans (k4.trans k5)⟩, by rw [inc64 (by omega)]; simp only [Int.toNat_natCast]; omega⟩⟩
    rw [inc64 (by omega), take_snoc hr, txtF_snoc]
    unfold lnT bdT
    simp only [ByteArray.append_assoc]
  · have hi : i = L.length := by simp at hge; omega
    subst hi
    rw [List.take_length]
    exact ⟨rfl, k2⟩

end Go.Proofs.YtmjanmffnblcoaaGreatDoor

/- Chapter 42: the contracts of the reference's number and Parse. Texts have at most 2^30 bytes. -/
namespace Go.Proofs.YtmjanmffnblcoaaGreatDoor
open Go.RowKit

def rnumR (s : ByteArray) : Int := if NumOK s ∧ s.size ≤ 6 then nvF s s.size else -1
theorem num_ref (s : ByteArray) : (rnumR s < 0 ∧ (numR s 999999).2 ≠ 0) ∨ (0 ≤ rnumR s ∧ numR s 999999 = (rnumR s, 0)) := by
  unfold rnumR numR
  by_cases h : NumOK s
  · have e1 : ¬ (999999 : Int) < 0 := by omega
    rw [if_pos h, if_neg e1]
    have h0 := nvF_nonneg h.2.1 s.size (Nat.le_refl _)
    by_cases h6 : s.size ≤ 6
    · have := nvF_hi h.2.1 h6
      rw [if_pos this, if_pos ⟨h, h6⟩]
      exact .inr ⟨h0, rfl⟩
    · have := nvF_lo h (by omega)
      have e2 : ¬ nvF s s.size ≤ 999999 := by omega
      rw [if_neg e2, if_neg (fun x : NumOK s ∧ s.size ≤ 6 => h6 x.2)]
      exact .inl ⟨by omega, by decide⟩
  · rw [if_neg h, if_neg (fun x : NumOK s ∧ s.size ≤ 6 => h x.1)]
    exact .inl ⟨by omega, by decide⟩
theorem rnumber_any (s : ByteArray) (w : World) (hs : s.size ≤ 4294967296) :
    Calls Tryz.prog 17 #[.string s] w fun e w' => e = .returned (.int .i64 (rnumR s)) ∧ K0 w w' := by
  refine vc_rnumber s w _ ?_
  unfold VC_rnumber
  rw [toList_nil]
  refine ⟨gimp_intro fun h => ?_, bsp_intro (fun hb => ?_) (fun hb => ?_)⟩
  · simp only [Bool.not_eq_true', Bool.or_eq_false_iff, decide_eq_false_iff_not] at h
    omega
  · have hn : ¬ (NumOK s ∧ s.size ≤ 6) := by
      rintro ⟨⟨h0, hd, hz⟩, h6⟩
      simp only [Bool.or_eq_true, Bool.and_eq_true, decide_eq_true_eq, beq_iff_eq] at hb
      rcases hb with (h | h) | ⟨h1, h2⟩
      · omega
      · omega
      · exact hz (by omega) h1
    exact ⟨by unfold rnumR; rw [if_neg hn], .refl _ _⟩
  simp only [Bool.or_eq_false_iff, Bool.and_eq_false_iff, decide_eq_false_iff_not, beq_eq_false_iff_ne] at hb
  obtain ⟨⟨h0, h6⟩, hz⟩ := hb
  have h0 : 0 < s.size := by omega
  have h6 : s.size ≤ 6 := by omega
  refine ⟨fun vs w' => ∃ k : Nat, vs = [.int .i64 (k : Int), .int .i64 (nvF s k)] ∧ k ≤ s.size ∧ 0 ≤ nvF s k ∧ nvF s k ≤ 111111111111 * k ∧ (∀ j, j < k → 48 ≤ at8 s j ∧ at8 s j ≤ 57) ∧ (k = 0 ∨ nvF s k < 10 ^ k) ∧ K0 w w',
    fun vs _ => (match vs with | .int _ x :: _ => s.size - x.toNat | _ => 0), ⟨0, rfl, by omega, by simp [nvF], by simp [nvF], (fun j h => by omega), .inl rfl, .refl _ _⟩, ?_⟩
  rintro x y w2 ⟨k, hv, hk, hnn, hub, hd, hpw, k2⟩
  simp only [List.cons.injEq, Value.int.injEq, true_and, and_true] at hv
  obtain ⟨rfl, rfl⟩ := hv
  refine bsp_intro (fun hlt => ?_) (fun hge => ?_)
  · have hlt : k < s.size := by simp at hlt; omega
    rw [Int.toNat_natCast]
    refine ⟨⟨by omega, by omega⟩, gimp_intro fun _ => ⟨by omega, by omega⟩, bsp_intro (fun hg => ?_) (fun hg => ⟨⟨by omega, by omega⟩, ?_⟩)⟩
    · have hn : ¬ (NumOK s ∧ s.size ≤ 6) := by
        rintro ⟨⟨_, hd, _⟩, _⟩
        have := hd k hlt
        simp only [Bool.or_eq_true, decide_eq_true_eq] at hg
        omega
      exact ⟨by unfold rnumR; rw [if_neg hn], k2⟩
    · have hdk : 48 ≤ at8 s k ∧ at8 s k ≤ 57 := by
        simp only [Bool.or_eq_false_iff, decide_eq_false_iff_not] at hg
        omega
      have hbig : nvF s k < 1000000 := by
        have h3 : ∀ n : Nat, n < 7 → (10 : Int) ^ n ≤ 1000000 := by decide
        have := h3 k (by omega)
        rcases hpw with h | h
        · subst h; simp [nvF]
        · omega
      have e1 : nvF s (k + 1) = 10 * nvF s k + (at8 s k - 48) := rfl
      rw [dig_wr hdk, inc64 (by omega), wr64 (x := 10 * nvF s k) (by omega) (by omega), wr64 (x := 10 * nvF s k + (at8 s k - 48)) (by omega) (by omega)]
      refine ⟨⟨k + 1, rfl, hlt, by omega, by omega, fun j hj => ?_, .inr ?_, k2⟩, by simp only [Int.toNat_natCast]; omega⟩
      · by_cases e : j = k
        · rw [e]; exact hdk
        · exact hd j (by omega)
      · rw [e1, Int.pow_succ]
        rcases hpw with h | h
        · subst h; simp [nvF]; omega
        · omega
  · have hk' : k = s.size := by simp at hge; omega
    subst hk'
    have hok : NumOK s := ⟨h0, hd, fun h1 h2 => by rcases hz with h | h; exact h h2; omega⟩
    exact ⟨by unfold rnumR; rw [if_pos ⟨hok, h6⟩], k2⟩

end Go.Proofs.YtmjanmffnblcoaaGreatDoor

/- Chapter 42: the contract of the reference's Parse; the statement's comparison. Texts have at most 2^30 bytes. -/
namespace Go.Proofs.YtmjanmffnblcoaaGreatDoor
open Go.RowKit

theorem extx (s : ByteArray) (a b i j : Nat) (h : a + j ≤ b) : (s.extract a b).extract i j = s.extract (a + i) (a + j) := by
  rw [ByteArray.extract_extract]
  congr 1
  omega
theorem FirstC.ext {c : UInt8} {s : ByteArray} {a i : Nat} (h : FirstC c s a i) {b : Nat} (hb : b ≤ s.size) (hi : i < b ∨ i = b) : FirstC c (s.extract a b) 0 (i - a) := by
  obtain ⟨h1, h2, h3, h4⟩ := h
  have hz : (s.extract a b).size = b - a := by rw [ByteArray.size_extract]; omega
  refine ⟨by omega, by omega, fun j _ hj => ?_, fun hlt => ?_⟩
  · rw [at8_extract s a b j (by omega) hb]; exact h3 _ (by omega) (by omega)
  · rw [at8_extract s a b (i - a) (by omega) hb, show a + (i - a) = i by omega]; exact h4 (by omega)
theorem parts_step {s : ByteArray} {fr at_ en : Nat} {ws : List ByteArray} (h2 : at_ ≤ en) (h3 : en < s.size) (hsp : at8 s en = 32) (hno : ∀ j, at_ ≤ j → j < en → at8 s j ≠ 32)
    (hp : ∀ i, en ≤ i → i ≤ s.size → partsC 32 (s.extract fr i) = ws ++ partsC 32 (s.extract at_ i)) : ∀ i, en + 1 ≤ i → i ≤ s.size → partsC 32 (s.extract fr i) = (ws ++ [s.extract at_ en]) ++ partsC 32 (s.extract (en + 1) i) := fun i h4 h5 => by
  have hf : FirstC 32 s at_ en := ⟨h2, by omega, fun j a b => hno j a b, fun _ => hsp⟩
  have hz : (s.extract at_ i).size = i - at_ := by rw [ByteArray.size_extract]; omega
  have := partsC_hit (hf.ext (b := i) h5 (by omega)) (by omega)
  rw [hp i (by omega) h5, this, extx s at_ i 0 (en - at_) (by omega), hz, extx s at_ i (en - at_ + 1) (i - at_) (by omega)]
  rw [show at_ + 0 = at_ by omega, show at_ + (en - at_) = en by omega, show at_ + (en - at_ + 1) = en + 1 by omega, show at_ + (i - at_) = i by omega]
  simp
theorem parts_end {s : ByteArray} {fr at_ en : Nat} {ws : List ByteArray} (h2 : at_ ≤ en) (h3 : en ≤ s.size) (hno : ∀ j, at_ ≤ j → j < en → at8 s j ≠ 32)
    (hp : ∀ i, en ≤ i → i ≤ s.size → partsC 32 (s.extract fr i) = ws ++ partsC 32 (s.extract at_ i)) : partsC 32 (s.extract fr en) = ws ++ [s.extract at_ en] := by
  have hz : (s.extract at_ en).size = en - at_ := by rw [ByteArray.size_extract]; omega
  have hf : FirstC 32 (s.extract at_ en) 0 (en - at_) := ⟨by omega, by omega, fun j _ hj => by rw [at8_extract s at_ en j (by omega) h3]; exact hno _ (by omega) (by omega), fun h => by omega⟩
  rw [hp en (Nat.le_refl _) h3, partsC_miss hf (by omega)]
def lineW : List ByteArray → Rl ⊕ Int
  | [a, b, c] => if (numR b 999999).2 ≠ 0 then .inr 3 else if (numR c 999999).2 ≠ 0 then .inr 3 else if rl1 ⟨a, (numR b 999999).1, (numR c 999999).1⟩ ≠ 0 then .inr (rl1 ⟨a, (numR b 999999).1, (numR c 999999).1⟩) else .inl ⟨a, (numR b 999999).1, (numR c 999999).1⟩
  | _ => .inr 3
theorem line1_eq (t : ByteArray) : line1 t = lineW (partsC 32 t) := rfl
theorem lineW_not3 {ws : List ByteArray} (h : ws.length ≠ 3) : lineW ws = .inr 3 := by
  match ws, h with
  | [], _ => rfl
  | [_], _ => rfl
  | [_, _], _ => rfl
  | [_, _, _], h => exact absurd rfl h
  | _ :: _ :: _ :: _ :: _, _ => rfl
theorem lineW_nil {a b c : ByteArray} (h : a.size = 0) : lineW [a, b, c] = .inr 3 := by
  have hr : ∀ lo hi, rl1 ⟨a, lo, hi⟩ = 3 := fun lo hi => by unfold rl1 compileR; rw [if_pos h]
  unfold lineW
  simp only [hr]
  split
  · rfl
  · split <;> rfl
theorem lineW_b {a b c : ByteArray} (h : rnumR b < 0) : lineW [a, b, c] = .inr 3 := by
  rcases num_ref b with ⟨_, h2⟩ | ⟨h2, _⟩
  · unfold lineW; simp only; rw [if_pos h2]
  · omega
theorem lineW_c {a b c : ByteArray} (h : rnumR c < 0) : lineW [a, b, c] = .inr 3 := by
  rcases num_ref c with ⟨_, h2⟩ | ⟨h2, _⟩
  · unfold lineW; simp only
    by_cases hb : (numR b 999999).2 ≠ 0
    · rw [if_pos hb]
    · rw [if_neg hb, if_pos h2]
  · omega
theorem lineW_ok {a b c : ByteArray} (hb : ¬ rnumR b < 0) (hc : ¬ rnumR c < 0) : lineW [a, b, c] = if rl1 ⟨a, rnumR b, rnumR c⟩ ≠ 0 then .inr (rl1 ⟨a, rnumR b, rnumR c⟩) else .inl ⟨a, rnumR b, rnumR c⟩ := by
  rcases num_ref b with ⟨h1, _⟩ | ⟨_, e1⟩
  · omega
  rcases num_ref c with ⟨h1, _⟩ | ⟨_, e2⟩
  · omega
  unfold lineW
  simp only [e1, e2]
  rw [if_neg (by decide), if_neg (by decide)]
theorem pack {T : Prop} {W w6 : World} {n3 : Nat} {X : Obj} (k : K0 W w6) (hb : w6.heap[n3]? = some X) (g : W.heap.size ≤ n3) (h : K0 W w6 → w6.heap[n3]? = some X → W.heap.size ≤ n3 → T) : T := h k hb g

set_option maxHeartbeats 2000000 in
theorem rparse_any (s : ByteArray) (w : World) (hs : s.size ≤ 1073741824) :
    Calls Tryz.prog 7 #[.string s] w fun e w' => (∃ (p : Option Addr) (c : Nat), e = .returned (.tuple #[.slice p (parseR s).1.length c, .int .i64 (parseR s).2.1, .int .i64 (parseR s).2.2]) ∧ w'.ownsRow w.heap.size 33 3 (.slice p (parseR s).1.length c) (parseR s).1.length ((parseR s).1.flatMap rlC)) ∧ K0 w w' := by
  refine vc_rparse s w _ ?_
  unfold parseR
  generalize hR : parseL (s.size + 1) s 1 [] = G
  refine ⟨fun vs w' => ∃ (line f : Nat) (acc : List Rl) (p : Option Addr) (c fr : Nat), vs = [.int .i64 (line : Int), .slice p acc.length c, .int .i64 (fr : Int)] ∧ fr ≤ s.size ∧ s.size - fr < f ∧ line + (s.size - fr) ≤ s.size + 1 ∧ parseL f (s.extract fr s.size) line acc = G ∧ w'.ownsRow w.heap.size 33 3 (.slice p acc.length c) acc.length (acc.flatMap rlC) ∧ acc.length ≤ 64 ∧ K0 w w',
    fun vs _ => (match vs with | [_, _, .int _ x] => s.size - x.toNat | _ => 0), ⟨1, s.size + 1, [], none, 0, 0, rfl, by omega, by omega, by omega, by rw [show s.extract 0 s.size = s from ByteArray.extract_zero_size]; exact hR, World.ownsRow_nil _ _ _ _, by simp, .refl _ _⟩, ?_⟩
  rintro x p n c y w1 ⟨line, f, acc, p', c', fr, hv, hfr, hf, hl, hE, ho, h64, k1⟩
  simp only [List.cons.injEq, Value.int.injEq, Value.slice.injEq, true_and, and_true] at hv
  obtain ⟨rfl, ⟨rfl, rfl, rfl⟩, rfl⟩ := hv
  obtain ⟨f, rfl⟩ : ∃ g, f = g + 1 := ⟨f - 1, by omega⟩
  have hxs : (s.extract fr s.size).size = s.size - fr := by rw [ByteArray.size_extract]; omega
  rw [parseL_succ, hxs] at hE
  have fail : ∀ (x : Int) (w2 : World), K0 w w2 → G = ([], (line : Int), x) → (∃ (p : Option Addr) (c : Nat), Ending.returned (.tuple #[.slice none 0 0, .int .i64 line, .int .i64 x]) = .returned (.tuple #[.slice p G.1.length c, .int .i64 G.2.1, .int .i64 G.2.2]) ∧ w2.ownsRow w.heap.size 33 3 (.slice p G.1.length c) G.1.length (G.1.flatMap rlC)) ∧ K0 w w2 := fun x w2 k2 hg => by
    subst hg
    exact ⟨⟨none, 0, rfl, World.ownsRow_nil _ _ _ _⟩, k2⟩
  refine bsp_intro (fun h0 => ?_) (fun h0 => ?_)
  · have h0 : fr < s.size := by simp at h0; omega
    rw [if_neg (by omega)] at hE
    refine ⟨fun vs w' => ∃ (en at_ : Nat) (ws : List ByteArray) (p1 : Option Addr) (c1 : Nat), vs = [.int .i64 (en : Int), .int .i64 (at_ : Int), .slice p1 ws.length c1] ∧ fr ≤ at_ ∧ at_ ≤ en ∧ en ≤ s.size ∧ (∀ j, fr ≤ j → j < en → at8 s j ≠ 10) ∧ (∀ j, at_ ≤ j → j < en → at8 s j ≠ 32) ∧
        (∀ i, en ≤ i → i ≤ s.size → partsC 32 (s.extract fr i) = ws ++ partsC 32 (s.extract at_ i)) ∧ w'.ownsRow w1.heap.size 9 1 (.slice p1 ws.length c1) ws.length (ws.map .string) ∧ ws.length ≤ en ∧ K0 w1 w',
      fun vs _ => (match vs with | .int _ x :: _ => s.size - x.toNat | _ => 0), ⟨fr, fr, [], none, 0, rfl, by omega, by omega, by omega, (fun j a b => by omega), (fun j a b => by omega), (fun i a b => rfl), World.ownsRow_nil _ _ _ _, by simp, .refl _ _⟩, ?_⟩
    rintro x2 x3 p1 n1 c1 w2 ⟨en, at_, ws, p1', c1', hv, ha1, ha2, hen, hnl, hsp, hps, how, hwl, k2⟩
    simp only [List.cons.injEq, Value.int.injEq, Value.slice.injEq, true_and, and_true] at hv
    obtain ⟨rfl, rfl, ⟨rfl, rfl, rfl⟩⟩ := hv
    rw [Int.toNat_natCast, Int.toNat_natCast]
    have kw2 := k1.trans k2
    refine ⟨gimp_intro fun h => ⟨by omega, by simpa using h⟩, bsp_intro (fun hc => ?_) (fun hc => ?_)⟩
    · have hc : en < s.size ∧ at8 s en ≠ 10 := by
        simp only [Bool.and_eq_true, decide_eq_true_eq, bne_iff_ne] at hc
        exact ⟨by omega, hc.2⟩
      have hnl' : ∀ j, fr ≤ j → j < en + 1 → at8 s j ≠ 10 := fun j a b => by
        by_cases e : j = en
        · rw [e]; exact hc.2
        · exact hnl j a (by omega)
      refine ⟨⟨by omega, by omega⟩, bsp_intro (fun h32 => ⟨⟨by omega, by omega, by omega⟩, fun n9 W hW => ?_⟩) (fun h32 => ⟨⟨en + 1, at_, ws, p1, c1, by rw [inc64 (by omega)], ha1, by omega, by omega, hnl', fun j a b => ?_, fun i a b => hps i (by omega) b, how, by omega, k2⟩, by rw [inc64 (by omega)]; simp only [Int.toNat_natCast]; omega⟩)⟩
      · have h32 : at8 s en = 32 := by simpa using h32
        have k3 : K0 w2 W := hW.kk rfl
        have ho3 := owns_kp how k3 (fun _ _ h => h)
        refine ⟨_, _, ho3, by omega, by omega, Nat.le_trans k2.size k3.size, fun p4 c4 w4 ho4 hg4 _ => ?_⟩
        have hk4 := kp_grown hg4
        have kk : K0 w1 w4 := (k2.trans k3).fresh hk4 (fun j hj e => by have := own_ge ho3 e; omega)
        refine ⟨.of_kp hk4 (fun z hz => by cases hz), ⟨en + 1, en + 1, ws ++ [s.extract at_ en], p4, c4, ?_, by omega, by omega, by omega, hnl', (fun j a b => by omega), parts_step ha2 hc.1 h32 hsp hps, ?_, by simp; omega, kk⟩, by rw [inc64 (by omega)]; simp only [Int.toNat_natCast]; omega⟩
        · rw [inc64 (by omega), List.length_append]; rfl
        · rw [List.length_append, List.map_append]; exact ho4
      · have h32 : at8 s en ≠ 32 := by simpa using h32
        by_cases e : j = en
        · rw [e]; exact h32
        · exact hsp j a (by omega)
    -- the line ends
    have hc : en = s.size ∨ (en < s.size ∧ at8 s en = 10) := by
      simp only [Bool.and_eq_false_iff, decide_eq_false_iff_not, bne_eq_false_iff_eq] at hc
      by_cases h : en < s.size
      · exact .inr ⟨h, by rcases hc with h' | h'; omega; exact h'⟩
      · exact .inl (by omega)
    have hfc : FirstC 10 (s.extract fr s.size) 0 (en - fr) := by
      have : FirstC 10 s fr en := ⟨by omega, hen, hnl, fun h => by rcases hc with h' | h'; omega; exact h'.2⟩
      exact this.ext (Nat.le_refl _) (by omega)
    have efind : findC 10 (s.extract fr s.size) = en - fr := (findC_first 10 _).uniq hfc
    rw [efind] at hE
    refine ⟨⟨by omega, by omega, by omega⟩, fun n9 W hW => ?_⟩
    have k3 : K0 w2 W := hW.kk rfl
    have ho3 := owns_kp how k3 (fun _ _ h => h)
    refine ⟨_, _, ho3, by omega, by omega, Nat.le_trans k2.size k3.size, fun p4 c4 w4 ho4 hg4 _ => ?_⟩
    have hk4 := kp_grown hg4
    have k14 : K0 w1 w4 := (k2.trans k3).fresh hk4 (fun j hj e => by have := own_ge ho3 e; omega)
    have kw4 := k1.trans k14
    refine ⟨.of_kp hk4 (fun z hz => by cases hz), bsp_intro (fun h => ?_) (fun h => bsp_intro (fun hn => ?_) (fun hn => ?_))⟩
    · have h : en = s.size := by simp at h; omega
      rw [if_pos (by omega)] at hE
      exact fail 4 w4 kw4 hE.symm
    · have h : en ≠ s.size := by simp at h; omega
      rw [if_neg (by omega), if_pos (by simp at hn; omega)] at hE
      exact fail 9 w4 kw4 hE.symm
    have h : en < s.size := by simp at h; omega
    have hn : acc.length < 64 := by simp at hn; omega
    rw [if_neg (by omega), if_neg (by omega), line1_eq, extx s fr s.size 0 (en - fr) (by omega), show fr + 0 = fr by omega, show fr + (en - fr) = en by omega, parts_end ha2 hen hsp hps,
      extx s fr s.size (en - fr + 1) (s.size - fr) (by omega), show fr + (en - fr + 1) = en + 1 by omega, show fr + (s.size - fr) = s.size by omega] at hE
    have hsz : ∀ x ∈ ws ++ [s.extract at_ en], x.size ≤ s.size := by
      rw [← parts_end ha2 hen hsp hps]
      intro x hx
      have := partsC_le _ _ hx
      rw [ByteArray.size_extract] at this
      omega
    have ho5 : w4.ownsRow w1.heap.size 9 1 (.slice p4 (ws.length + 1) c4) (ws.length + 1) ((ws ++ [s.extract at_ en]).map .string) := by rw [List.map_append]; exact ho4
    have hln : ws.length + 1 = (ws ++ [s.extract at_ en]).length := by simp
    generalize ws ++ [s.extract at_ en] = us at *
    by_cases h3 : us.length = 3
    · have hg : (((ws.length + 1 : Nat) : Int) != 3) = false := by simp; omega
      obtain ⟨a, b, d, rfl⟩ : ∃ a b d, us = [a, b, d] := by
        match us, h3 with
        | [a, b, d], _ => exact ⟨a, b, d, rfl⟩
      obtain ⟨gb, hp4, ca⟩ := own_cellL ho5 (i := 0) (v := .string a) rfl
      obtain ⟨gb1, hp4', cb⟩ := own_cellL ho5 (i := 1) (v := .string b) rfl
      obtain ⟨gb2, hp4'', cd⟩ := own_cellL ho5 (i := 2) (v := .string d) rfl
      rw [hp4] at hp4' hp4''
      simp only [Option.some.injEq, Addr.mk.injEq, and_true] at hp4' hp4''
      subst hp4' hp4''
      have hw2 : ws.length = 2 := by simp at hln; omega
      have hbz : b.size ≤ 4294967296 := by have := hsz b (by simp); omega
      have hdz : d.size ≤ 4294967296 := by have := hsz d (by simp); omega
      refine nn_is hp4 ⟨gimp_intro fun _ => ⟨by omega, by omega⟩, a, gimp_intro fun _ => ca, nn_is hp4 ⟨gimp_intro fun _ => ⟨by omega, by omega⟩, b, gimp_intro fun _ => cb, bsp_intro (fun ha => ?_) (fun ha => ?_)⟩⟩
      · have ha : a.size ≠ 0 := by rw [hg, toList_nil] at ha; simpa using ha
        refine ⟨(rnumber_any b w4 hbz).mono fun e w5a ⟨he, k5⟩ => ⟨_, he, .of_k0 k5, nn_is hp4 ⟨gimp_intro fun _ => ⟨by omega, by omega⟩, d, gimp_intro fun _ => k5.cell' cd (fun h => h), bsp_intro (fun hb => ?_) (fun hb => ?_)⟩⟩⟩
        · have hb : ¬ rnumR b < 0 := by simpa using hb
          refine ⟨(rnumber_any d w5a hdz).mono fun e w6a ⟨he, k6⟩ => ⟨_, he, .of_k0 k6, bsp_intro (fun hd => ?_) (fun hd => fun W2 hW2 => ?_)⟩⟩
          · have hd : rnumR d < 0 := by simpa using hd
            rw [lineW_c hd] at hE
            exact fail 3 w6a ((kw4.trans k5).trans k6) hE.symm
          have hd : ¬ rnumR d < 0 := by simpa using hd
          rw [lineW_ok hb hd] at hE
          have kA : K0 w4 W2 := (k5.trans k6).trans (hW2.kk rfl)
          have kwA : K0 w W2 := kw4.trans kA
          have k1A : K0 w1 W2 := k14.trans kA
          refine ⟨fun wx => K0 W2 wx, .refl _ _, nn_is hp4 ⟨⟨by omega, by omega⟩, a, fun wx k => (kA.trans k).cell' ca (fun h => h), nn_is hp4 ⟨⟨by omega, by omega⟩, b, fun wx k => (kA.trans k).cell' cb (fun h => h), nn_is hp4 ⟨⟨by omega, by omega⟩, d, fun wx k => (kA.trans k).cell' cd (fun h => h), ?_⟩⟩⟩⟩
          refine ⟨⟨(rnumber_any b W2 hbz).mono fun e1 w7 ⟨he7, k7⟩ => ⟨_, he7, k7, ⟨(rnumber_any d w7 hdz).mono fun e2 w8 ⟨he8, k8⟩ => ⟨_, he8, k7.trans k8, fun n3 w6 hn3 => ⟨(k7.trans k8).trans (hn3.kp _), pack ((k7.trans k8).trans (hn3.kp _)) hn3.block (Nat.le_trans (k7.trans k8).size hn3.ge) fun k9 hb9 g9 => ?_⟩⟩⟩, fun n3 w8 hn3 => ⟨k7.trans (hn3.kp _), ⟨(rnumber_any d w8 hdz).mono fun e2 w6 ⟨he8, k8⟩ => ⟨_, he8, (k7.trans (hn3.kp _)).trans k8, pack ((k7.trans (hn3.kp _)).trans k8) (k8.blk hn3.block (fun h => h)) (Nat.le_trans k7.size hn3.ge) fun k9 hb9 g9 => ?_⟩⟩⟩⟩⟩, fun n3 w7 hn3 => ⟨hn3.kp _, ⟨(rnumber_any b w7 hbz).mono fun e1 w8 ⟨he7, k7⟩ => ⟨_, he7, (hn3.kp _).trans k7, ⟨(rnumber_any d w8 hdz).mono fun e2 w6 ⟨he8, k8⟩ => ⟨_, he8, ((hn3.kp _).trans k7).trans k8, pack (((hn3.kp _).trans k7).trans k8) ((k7.trans k8).blk hn3.block (fun h => h)) hn3.ge fun k9 hb9 g9 => ?_⟩⟩⟩⟩⟩⟩
          all_goals
            refine ⟨WrL_block hb9 (Nat.le_refl 3), fun w10 hp => ⟨.of_k0 (put_k0 k9 hp g9), a, rnumR b, rnumR d, AtL_block (hp.full hb9 rfl) rfl, ⟨(xrule_any ⟨a, rnumR b, rnumR d⟩ w10).mono fun e w11 ⟨he, k11⟩ => ⟨_, he, .of_k0 k11, bsp_intro (fun hx => ?_) (fun hx => ?_)⟩⟩⟩⟩
            · have hx : rl1 ⟨a, rnumR b, rnumR d⟩ ≠ 0 := by simpa using hx
              rw [if_pos hx] at hE
              exact fail _ w11 ((kwA.trans (put_k0 k9 hp g9)).trans k11) hE.symm
            · have hx : ¬ rl1 ⟨a, rnumR b, rnumR d⟩ ≠ 0 := by simpa using hx
              rw [if_neg hx] at hE
              have hb11 := k11.blk (hp.full hb9 rfl) (fun h => h)
              refine ⟨a, rnumR b, rnumR d, AtL_block hb11 rfl, fun n12 W12 hW12 => ?_⟩
              have kB : K0 W2 W12 := ((put_k0 k9 hp g9).trans k11).trans (hW12.kk rfl)
              have k1B := k1A.trans kB
              have ho12 := owns_kp ho k1B (fun _ _ h => h)
              refine ⟨_, _, ho12, by omega, by omega, Nat.le_trans k1.size k1B.size, fun p13 c13 w13 ho13 hg13 _ => ?_⟩
              have hk13 := kp_grown hg13
              have kk : K0 w w13 := (k1.trans k1B).fresh hk13 (fun j hj e => by have := own_ge ho12 e; omega)
              refine ⟨.of_kp hk13 (fun z hz => by cases hz), ⟨line + 1, f, acc ++ [⟨a, rnumR b, rnumR d⟩], p13, c13, en + 1, ?_, by omega, by omega, by omega, hE, ?_, by simp; omega, kk⟩, ?_⟩
              · rw [inc64 (by omega), inc64 (by omega), List.length_append]; rfl
              · rw [List.length_append, List.flatMap_append]; simpa [rlC] using ho13
              · rw [inc64 (by omega), inc64 (by omega)]; simp only [Int.toNat_natCast]; omega
        · have hb : rnumR b < 0 := by simpa using hb
          rw [lineW_b hb] at hE
          exact ⟨.refl _ _, fail 3 w5a (kw4.trans k5) hE.symm⟩
      · have ha : a.size = 0 := by rw [hg, toList_nil] at ha; simpa using ha
        rw [lineW_nil ha] at hE
        exact ⟨.refl _ _, nn_off fun _ _ => ⟨trivial, ⟨#[]⟩, trivial, .refl _ _, fail 3 w4 kw4 hE.symm⟩⟩
    · have hg : (((ws.length + 1 : Nat) : Int) != 3) = true := by simp; omega
      rw [lineW_not3 h3] at hE
      simp only [hg, Bool.true_or, Bool.not_true]
      exact nn_off fun _ _ => ⟨gimp_intro (fun h => by cases h), ⟨#[]⟩, gimp_intro (fun h => by cases h), nn_off fun _ _ => ⟨gimp_intro (fun h => by cases h), ⟨#[]⟩, gimp_intro (fun h => by cases h), bsp_intro (fun h => by cases h) (fun _ => ⟨.refl _ _, nn_off fun _ _ => ⟨trivial, ⟨#[]⟩, trivial, .refl _ _, fail 3 w4 kw4 hE.symm⟩⟩)⟩⟩
  · have h0 : fr = s.size := by simp at h0; omega
    rw [if_pos (by omega)] at hE
    subst hE
    exact ⟨⟨p, c, rfl, ho⟩, k1⟩

end Go.Proofs.YtmjanmffnblcoaaGreatDoor

/- The formulas of functions by the symbolic evaluator, and that each gives the call's contract. Written by a program (gen.py). No condition. -/
namespace Go.Proofs.YtmjanmffnblcoaaGreatDoor
set_option maxRecDepth 100000
set_option linter.unusedVariables false

def VC_lknown (w : World) (R : Ending → World → Prop) : Prop :=
 ∀ (n n_1 : Nat) (W : World),
 Loc w.heap.size
 [Blk.mk n_1 9
 [Value.string (ByteArray.mk #[97, 108, 116, 46, 116, 101, 115, 116]),
 Value.string (ByteArray.mk #[114, 101, 99, 46, 98, 111, 97, 116, 115])]
 2,
 Blk.mk n 40
 [Value.string (ByteArray.mk #[42]), Value.int IntKind.i64 0, Value.int IntKind.i64 10,
 Value.string (ByteArray.mk #[114, 101, 99, 46, 42]), Value.int IntKind.i64 5, Value.int IntKind.i64 30]
 2]
 w W →
 ∀ (n_2 n_3 : Nat) (W_1 : World),
 Loc w.heap.size
 [Blk.mk n_3 46
 [Value.int IntKind.u8 1, Value.int IntKind.u8 0, Value.int IntKind.u8 0, Value.int IntKind.u8 0,
 Value.int IntKind.u8 0, Value.int IntKind.u8 0, Value.int IntKind.u8 0, Value.int IntKind.u8 0,
 Value.int IntKind.u8 0, Value.int IntKind.u8 0, Value.int IntKind.u8 0, Value.int IntKind.u8 0,
 Value.int IntKind.u8 0, Value.int IntKind.u8 0, Value.int IntKind.u8 0, Value.int IntKind.u8 0,
 Value.int IntKind.u8 0, Value.int IntKind.u8 0, Value.int IntKind.u8 0, Value.int IntKind.u8 0,
 Value.int IntKind.u8 0, Value.int IntKind.u8 0, Value.int IntKind.u8 0, Value.int IntKind.u8 0,
 Value.int IntKind.u8 0, Value.int IntKind.u8 0, Value.int IntKind.u8 0, Value.int IntKind.u8 0,
 Value.int IntKind.u8 0, Value.int IntKind.u8 0, Value.int IntKind.u8 0, Value.int IntKind.u8 0,
 Value.int IntKind.i64 0, Value.int IntKind.i64 0, Value.slice (some (Addr.mk n_1 0 none)) 2 2,
 Value.int IntKind.i64 7, Value.int IntKind.i64 0, Value.slice none 0 0, Value.bool false]
 2,
 Blk.mk n_2 46
 [Value.int IntKind.u8 1, Value.int IntKind.u8 0, Value.int IntKind.u8 0, Value.int IntKind.u8 0,
 Value.int IntKind.u8 0, Value.int IntKind.u8 0, Value.int IntKind.u8 0, Value.int IntKind.u8 0,
 Value.int IntKind.u8 0, Value.int IntKind.u8 0, Value.int IntKind.u8 0, Value.int IntKind.u8 0,
 Value.int IntKind.u8 0, Value.int IntKind.u8 0, Value.int IntKind.u8 0, Value.int IntKind.u8 0,
 Value.int IntKind.u8 0, Value.int IntKind.u8 0, Value.int IntKind.u8 0, Value.int IntKind.u8 0,
 Value.int IntKind.u8 0, Value.int IntKind.u8 0, Value.int IntKind.u8 0, Value.int IntKind.u8 0,
 Value.int IntKind.u8 0, Value.int IntKind.u8 0, Value.int IntKind.u8 0, Value.int IntKind.u8 0,
 Value.int IntKind.u8 0, Value.int IntKind.u8 0, Value.int IntKind.u8 0, Value.int IntKind.u8 0,
 Value.int IntKind.i64 0, Value.int IntKind.i64 0, Value.slice (some (Addr.mk n_1 0 none)) 2 2,
 Value.int IntKind.i64 7, Value.int IntKind.i64 0, Value.slice none 0 0, Value.bool false]
 (wrM 2),
 Blk.mk n 40
 [Value.string (ByteArray.mk #[42]), Value.int IntKind.i64 0, Value.int IntKind.i64 10,
 Value.string (ByteArray.mk #[114, 101, 99, 46, 42]), Value.int IntKind.i64 5, Value.int IntKind.i64 30]
 0]
 W W_1 →
 CallsS Tryz.prog 12
 #[Value.slice (some (Addr.mk n 0 none)) 2 2, Value.slice (some (Addr.mk n_3 0 none)) 1 1,
 Value.int IntKind.i64 43200, Value.int IntKind.i64 100]
 W_1 fun (e : Ending) (w' : World) =>
 ∃ (p : Option Addr),
 ∃ (n_4 : Nat),
 ∃ (c : Nat),
 ∃ (x : Int),
 e = Ending.returned (Value.tuple #[Value.slice p n_4 c, Value.int IntKind.i64 x]) ∧
 KeptL [n_2, n] W_1 w' ∧
 CallsS Tryz.prog 13
 #[Value.slice (some (Addr.mk n 0 none)) 2 2,
 Value.agg
 #[Value.int IntKind.u8 1, Value.int IntKind.u8 0, Value.int IntKind.u8 0, Value.int IntKind.u8 0,
 Value.int IntKind.u8 0, Value.int IntKind.u8 0, Value.int IntKind.u8 0, Value.int IntKind.u8 0,
 Value.int IntKind.u8 0, Value.int IntKind.u8 0, Value.int IntKind.u8 0, Value.int IntKind.u8 0,
 Value.int IntKind.u8 0, Value.int IntKind.u8 0, Value.int IntKind.u8 0, Value.int IntKind.u8 0,
 Value.int IntKind.u8 0, Value.int IntKind.u8 0, Value.int IntKind.u8 0, Value.int IntKind.u8 0,
 Value.int IntKind.u8 0, Value.int IntKind.u8 0, Value.int IntKind.u8 0, Value.int IntKind.u8 0,
 Value.int IntKind.u8 0, Value.int IntKind.u8 0, Value.int IntKind.u8 0, Value.int IntKind.u8 0,
 Value.int IntKind.u8 0, Value.int IntKind.u8 0, Value.int IntKind.u8 0, Value.int IntKind.u8 0,
 Value.int IntKind.i64 0, Value.int IntKind.i64 0, Value.slice (some (Addr.mk n_1 0 none)) 2 2,
 Value.int IntKind.i64 7, Value.int IntKind.i64 0, Value.slice none 0 0, Value.bool false]]
 w' fun (e : Ending) (w'_1 : World) =>
 ∃ (x_1 : Int),
 e = Ending.returned (Value.int IntKind.i64 x_1) ∧
 KeptL [n_2, n] w' w'_1 ∧
 bsp (x_1 == 5)
 (CallsS Tryz.prog 14
 #[Value.slice (some (Addr.mk n 0 none)) 2 2,
 Value.agg
 #[Value.int IntKind.u8 1, Value.int IntKind.u8 0, Value.int IntKind.u8 0, Value.int IntKind.u8 0,
 Value.int IntKind.u8 0, Value.int IntKind.u8 0, Value.int IntKind.u8 0, Value.int IntKind.u8 0,
 Value.int IntKind.u8 0, Value.int IntKind.u8 0, Value.int IntKind.u8 0, Value.int IntKind.u8 0,
 Value.int IntKind.u8 0, Value.int IntKind.u8 0, Value.int IntKind.u8 0, Value.int IntKind.u8 0,
 Value.int IntKind.u8 0, Value.int IntKind.u8 0, Value.int IntKind.u8 0, Value.int IntKind.u8 0,
 Value.int IntKind.u8 0, Value.int IntKind.u8 0, Value.int IntKind.u8 0, Value.int IntKind.u8 0,
 Value.int IntKind.u8 0, Value.int IntKind.u8 0, Value.int IntKind.u8 0, Value.int IntKind.u8 0,
 Value.int IntKind.u8 0, Value.int IntKind.u8 0, Value.int IntKind.u8 0, Value.int IntKind.u8 0,
 Value.int IntKind.i64 0, Value.int IntKind.i64 0, Value.slice (some (Addr.mk n_1 0 none)) 2 2,
 Value.int IntKind.i64 7, Value.int IntKind.i64 0, Value.slice none 0 0, Value.bool false]]
 w'_1 fun (e : Ending) (w' : World) =>
 ∃ (x_2 : Int),
 e = Ending.returned (Value.int IntKind.i64 x_2) ∧
 KeptL [n_2, n] w'_1 w' ∧
 nn (true && x_2 == 30 && x == 0 && (↑n_4 : Int) == 1) p fun (b o : Nat) =>
 gimp (true && x_2 == 30 && x == 0 && (↑n_4 : Int) == 1) ((0 : Int) ≤ 0 ∧ 0 < (↑n_4 : Int)) ∧
 ∃ (f : Nat → Int),
 ∃ (x_3 : Int),
 gimp (true && x_2 == 30 && x == 0 && (↑n_4 : Int) == 1)
 (AtL w' b o
 (arrI IntKind.u8 f 32 0 ++ [Value.int IntKind.i64 x_3])) ∧
 ∃ (r : Bool),
 gimp (true && x_2 == 30 && x == 0 && (↑n_4 : Int) == 1)
 (EqP Tryz.prog 53
 (Value.agg
 (arrI IntKind.u8 f 32 0 ++ [Value.int IntKind.i64 x_3]).toArray)
 (Value.agg
 #[Value.int IntKind.u8 1, Value.int IntKind.u8 0, Value.int IntKind.u8 0,
 Value.int IntKind.u8 0, Value.int IntKind.u8 0, Value.int IntKind.u8 0,
 Value.int IntKind.u8 0, Value.int IntKind.u8 0, Value.int IntKind.u8 0,
 Value.int IntKind.u8 0, Value.int IntKind.u8 0, Value.int IntKind.u8 0,
 Value.int IntKind.u8 0, Value.int IntKind.u8 0, Value.int IntKind.u8 0,
 Value.int IntKind.u8 0, Value.int IntKind.u8 0, Value.int IntKind.u8 0,
 Value.int IntKind.u8 0, Value.int IntKind.u8 0, Value.int IntKind.u8 0,
 Value.int IntKind.u8 0, Value.int IntKind.u8 0, Value.int IntKind.u8 0,
 Value.int IntKind.u8 0, Value.int IntKind.u8 0, Value.int IntKind.u8 0,
 Value.int IntKind.u8 0, Value.int IntKind.u8 0, Value.int IntKind.u8 0,
 Value.int IntKind.u8 0, Value.int IntKind.u8 0, Value.int IntKind.i64 2])
 r) ∧
 R (Ending.returned (Value.bool (true && x_2 == 30 && x == 0 && (↑n_4 : Int) == 1 && r))) w')
 (KeptL [n_2, n] w'_1 w'_1 ∧
 nn (false && x == 0 && (↑n_4 : Int) == 1) p fun (b o : Nat) =>
 True ∧
 ∃ (f : Nat → Int),
 ∃ (x_2 : Int),
 True ∧
 ∃ (r : Bool),
 True ∧ R (Ending.returned (Value.bool (false && x == 0 && (↑n_4 : Int) == 1 && r))) w'_1)
theorem vc_lknown (w : World) (R : Ending → World → Prop) (h : VC_lknown w R) : Calls Tryz.prog 5 ([] : List Value).toArray w R := by
  have e : execR2 { P := Tryz.prog, loops := [], pur := pur2, tails := [], joins := [], boxes := [] } Tryz.f5.results.toList R (Tryz.f5.body.getD .skip) (initF [] (Tryz.f5.ntmps - ([] : List Value).length)) w = VC_lknown w R := by kernel_rfl
  have hb : Tryz.f5.body = some (Tryz.f5.body.getD .skip) := by kernel_rfl
  exact calls_of_exec2' (P := Tryz.prog) (fn := Tryz.f5) (c := Tryz.f5.body.getD .skip) (args := []) (w := w) (R := R) pur2_ok Tryz.func5 hb e h

end Go.Proofs.YtmjanmffnblcoaaGreatDoor

/- Chapter 42: reasons compared; the examples hold (known). No condition. -/
namespace Go.Proofs.YtmjanmffnblcoaaGreatDoor
open Go.RowKit Go.Sort Go.Maps

theorem whyKey {f : Nat → Int} (hf : ∀ j, 0 ≤ f j ∧ f j ≤ 255) {k : Int} (hk : 0 ≤ k ∧ k ≤ 5) (D : Nat) : Tryz.prog.keyLits (D + 3) 53 (whyL f k) = some ((idI f).map (Lit.int .u8) ++ [.int .i64 k]) := by
  unfold Program.keyLits
  rw [Tryz.underlying53]
  simp only
  have c0 : Tryz.prog.cellsOf 53 = 33 := by kernel_rfl
  rw [if_pos ⟨by rw [c0]; rfl, by decide +kernel⟩]
  have h1 := keyLits_bytes (P := Tryz.prog) (t := 42) (e := 5) (n := 32) Tryz.underlying42 Tryz.underlying5 (by kernel_rfl) (by kernel_rfl) (idI_len f) (idI_bd hf) D
  have h2 : Tryz.prog.keyLits (D + 2) 3 [.int .i64 k] = some [.int .i64 k] := by
    unfold Program.keyLits
    rw [Tryz.underlying3]
    simp only
    have hw : (Lit.int .i64 k).wf = true := by simp [Lit.wf, IntKind.min, IntKind.max, IntKind.bits, IntKind.signed]; omega
    simp [hw]
  have c1 : Tryz.prog.cellsOf 42 = 32 := by kernel_rfl
  have c2 : Tryz.prog.cellsOf 3 = 1 := by kernel_rfl
  simp only [List.mapM_cons, List.mapM_nil, c1, c2]
  have e1 : ((whyL f k).drop 0).take 32 = (idI f).map (Value.int .u8) := rfl
  have e2 : ((whyL f k).drop 32).take 1 = [.int .i64 k] := rfl
  rw [e1, e2, h1, h2]
  simp
theorem whyEq {f : Nat → Int} (hf : ∀ j, 0 ≤ f j ∧ f j ≤ 255) {k : Int} (hk : 0 ≤ k ∧ k ≤ 5) : EqP Tryz.prog 53 (.agg (whyL f k).toArray) (.agg (whyL f k).toArray) true := by
  have hkey : keyOf Tryz.prog 53 (.agg (whyL f k).toArray) = some (.string (keyBytes ((idI f).map (Lit.int .u8) ++ [.int .i64 k]))) := by
    unfold keyOf
    rw [Tryz.underlying53]
    simp only
    have h1 : Tryz.prog.keyType 53 = true := by kernel_rfl
    have hf' : (Value.agg (whyL f k).toArray).formed Tryz.prog 53 = true := by
      unfold Value.formed
      rw [Tryz.underlying53]
      have c0 : Tryz.prog.cellsOf 53 = 33 := by kernel_rfl
      simp only
      rw [c0]; rfl
    rw [h1, hf']
    have h2 := whyKey hf hk (Tryz.prog.types.size - 2)
    have hsz : 2 ≤ Tryz.prog.types.size := by decide +kernel
    have e2 : Tryz.prog.types.size - 2 + 3 = Tryz.prog.types.size + 1 := by omega
    rw [e2] at h2
    have : (Value.agg (whyL f k).toArray).cells.toList = whyL f k := by simp [Value.cells]
    rw [this, h2]
    rfl
  refine ⟨fun w => ?_, by kernel_rfl, _, _, rfl, rfl⟩
  obtain ⟨r, hr, hi⟩ := run_equal_deep w (m := 3) (by omega) (by kernel_rfl) (by rw [Tryz.underlying53]) hkey hkey
  rw [hr, hi.2 rfl]
/-- A block is a row of elements. -/
theorem rowA_block {α : Type} {f : α → List Value} {L : Nat} {w : World} {n : Nat} {T : TypeId} {fz : Nat × Nat} {l : List α} (h : w.heap[n]? = some (.cells (l.flatMap f).toArray T fz)) (hl : ∀ y, (f y).length = L) : RowA f L w (some ⟨n, 0, none⟩) l := fun k y hy => by
  refine ⟨n, 0, rfl, AtL_block h ?_⟩
  rw [hl y, Nat.zero_add]
  apply List.ext_getElem?
  intro j
  rw [List.getElem?_take]
  split
  · rename_i hj
    rw [List.getElem?_drop]
    exact flat_get f L l k y j (fun z _ => hl z) hy hj
  · rename_i hj
    rw [List.getElem?_eq_none (by rw [hl y]; omega)]
def b0 (s : String) : ByteArray := s.toUTF8
/-- The example's rules and article. -/
def exL : List Rl := [⟨⟨#[42]⟩, 0, 10⟩, ⟨⟨#[114, 101, 99, 46, 42]⟩, 5, 30⟩]
def exI (j : Nat) : Int := if j = 0 then 1 else 0
def exA (p : Option Addr) : AX := ⟨exI, 0, 0, p, 2, [⟨#[97, 108, 116, 46, 116, 101, 115, 116]⟩, ⟨#[114, 101, 99, 46, 98, 111, 97, 116, 115]⟩], 7, 0, none, 0, [], false⟩
theorem exA_pl (p : Option Addr) : (exA p).pl = (exA none).pl := rfl
theorem ex_err : planErr exL [(exA none).pl] 43200 100 = 0 := by decide +kernel
theorem ex_plan : (refP exL 43200 100 1 [(exA none).pl]).1 = [(idI exI, 2)] := by decide +kernel
theorem ex_chk : chkR exL = 0 := by decide +kernel
theorem ex_days : daysR exL (exA none).gs = (5, 30) := by decide +kernel
set_option maxRecDepth 100000 in
theorem known_any (w : World) : Calls Tryz.prog 5 #[] w fun e w' => e = .returned (.bool true) ∧ K0 w w' := by
  refine vc_lknown w _ ?_
  intro n n1 W hW n2 n3 W1 hW1
  have kW : K0 w W := hW.kk rfl
  have kW1 : K0 W W1 := hW1.kk rfl
  have kw1 : K0 w W1 := kW.trans kW1
  have hn := hW1.cells 2 rfl
  have hn3 := hW1.cells 0 rfl
  have hgs := kW1.blk (hW.cells 0 rfl) (fun h => h)
  have hR : RowA rlC 3 W1 (some ⟨n, 0, none⟩) exL := rowA_block hn rlC_length
  have hA : RowA axC 39 W1 (some ⟨n3, 0, none⟩) [exA (some ⟨n1, 0, none⟩)] := rowA_block hn3 axC_length
  have hS : StrP W1 (some ⟨n1, 0, none⟩) (exA none).gs := fun j z hz => by
    refine ⟨n1, 0, rfl, ?_⟩
    rw [Nat.zero_add]
    refine cell_at hgs ?_
    have : j = 0 ∨ j = 1 := by have := (List.getElem?_eq_some_iff.1 hz).1; simp [exA] at this; omega
    rcases this with rfl | rfl
    · simp [exA] at hz; subst hz; rfl
    · simp [exA] at hz; subst hz; rfl
  have hX : AXR W1 (exA (some ⟨n1, 0, none⟩)) := ⟨hS, RowA.nil⟩
  have hgl : ∀ z ∈ (exA none).gs, z.size ≤ 60 := by
    intro z hz
    simp [exA] at hz
    rcases hz with rfl | rfl <;> decide
  refine ⟨(eplan_any exL (some ⟨n, 0, none⟩) 2 [exA (some ⟨n1, 0, none⟩)] (some ⟨n3, 0, none⟩) 1 43200 100 W1 hR hA (fun x hx => by simp at hx; subst hx; exact hX) (fun x hx => by
    simp at hx; subst hx
    exact ⟨Nat.le_of_ble_eq_true rfl, fun z hz => by have := hgl z hz; omega, Nat.le_of_ble_eq_true rfl, fun j => by show 0 ≤ exI j ∧ exI j ≤ 255; unfold exI; split <;> decide, fun h hh => by cases hh⟩) (Nat.le_of_ble_eq_true rfl)).mono fun e w2 ⟨k2, he⟩ => ?_⟩
  have e0 : planErr exL ([exA (some ⟨n1, 0, none⟩)].map AX.pl) 43200 100 = 0 := ex_err
  rcases he with ⟨h, _⟩ | ⟨_, R, p', c', he, hown, hplan, hRb⟩
  · exact absurd e0 h
  have hplan : R.map whyS = [(idI exI, 2)] := hplan.trans ex_plan
  obtain ⟨r, rfl⟩ : ∃ r, R = [r] := by
    match R, hplan with
    | [r], _ => exact ⟨r, rfl⟩
    | [], h => simp at h
    | _ :: _ :: _, h => simp at h
  simp only [List.map_cons, List.map_nil, List.cons.injEq, and_true] at hplan
  have hid : idI r.1 = idI exI := congrArg (·.1) hplan
  have hk : r.2 = 2 := congrArg (·.2) hplan
  refine ⟨_, _, _, _, he, .of_k0 k2, ?_⟩
  have d1 : (if chkR exL = 0 then (daysR exL (exA (some ⟨n1, 0, none⟩)).gs).1 else 0) = 5 := by
    rw [if_pos ex_chk]
    exact congrArg (·.1) ex_days
  have d2 : (if chkR exL = 0 then (daysR exL (exA (some ⟨n1, 0, none⟩)).gs).2 else 0) = 30 := by
    rw [if_pos ex_chk]
    exact congrArg (·.2) ex_days
  refine ⟨(eleast_any exL (some ⟨n, 0, none⟩) 2 (exA (some ⟨n1, 0, none⟩)) w2 (hR.k0 k2) (hS.k0 k2) (Nat.le_of_ble_eq_true rfl) (fun z hz => by have := hgl z hz; omega)).mono fun e w3 ⟨he, k3⟩ => ⟨_, he, .of_k0 k3, ?_⟩⟩
  rw [d1]
  refine bsp_intro (fun _ => ?_) (fun h => absurd h (by decide))
  refine ⟨(emost_any exL (some ⟨n, 0, none⟩) 2 (exA (some ⟨n1, 0, none⟩)) w3 (hR.k0 (k2.trans k3)) (hS.k0 (k2.trans k3)) (Nat.le_of_ble_eq_true rfl) (fun z hz => by have := hgl z hz; omega)).mono fun e w4 ⟨he, k4⟩ => ⟨_, he, .of_k0 k4, ?_⟩⟩
  rw [d2]
  have hrow : RowA whyC 33 w4 p' [r] := (RowA.own hown whyC_length (by decide)).k0 (k3.trans k4)
  obtain ⟨b, o, hp, hat⟩ := hrow 0 r rfl
  have harr : whyC r = whyL exI 2 := by
    unfold whyC whyL
    rw [arrI_idI, hid, hk]; rfl
  rw [harr, Nat.zero_mul, Nat.add_zero] at hat
  refine nn_eq hp ⟨gimp_intro fun _ => by simp, exI, 2, gimp_intro fun _ => hat, true, gimp_intro fun _ => whyEq (fun j => by unfold exI; split <;> decide) (by decide), ?_, ((kw1.trans k2).trans k3).trans k4⟩
  rfl

end Go.Proofs.YtmjanmffnblcoaaGreatDoor

/- Chapter 42: the statement's comparison of rules; ExpiryParse on worlds. -/
namespace Go.Proofs.YtmjanmffnblcoaaGreatDoor
open Go.RowKit

theorem lsame_any (L : List Rl) (p : Option Addr) (c : Nat) (q : Option Addr) (d : Nat) (w : World) (hp : RowA rlC 3 w p L) (hq : RowA rlC 3 w q L) (hl : L.length ≤ 4611686018427387904) :
    Calls Tryz.prog 8 #[.slice p L.length c, .slice q L.length d] w fun e w' => e = .returned (.bool true) ∧ K0 w w' := by
  refine vc_sameRules p L.length c q L.length d w _ ?_
  refine bsp_intro (fun h => by simp at h) (fun _ => ?_)
  refine ⟨fun vs w' => ∃ i : Nat, vs = [.int .i64 (i : Int)] ∧ i ≤ L.length ∧ K0 w w',
    fun vs _ => (match vs with | .int _ x :: _ => L.length - x.toNat | _ => 0), ⟨0, rfl, by omega, .refl _ _⟩, ?_⟩
  rintro x w1 ⟨i, hv, hi, k1⟩
  simp only [List.cons.injEq, Value.int.injEq, true_and, and_true] at hv
  subst hv
  refine bsp_intro (fun hlt => ?_) (fun hge => ⟨rfl, k1⟩)
  have hlt : i < L.length := by simp at hlt; omega
  obtain ⟨r, b, o, hr, ep, hat⟩ := (hp.k0 k1).get hlt
  obtain ⟨r', b', o', hr', eq, hat'⟩ := (hq.k0 k1).get hlt
  rw [hr] at hr'
  simp only [Option.some.injEq] at hr'
  subst hr'
  have c0 : ∀ W, K0 w1 W → W.cell? ⟨b, o + i * 3, none⟩ = some (.string r.pat) := fun W k => by simpa using (hat.k0 k).cell (j := 0) rfl
  have c1 : ∀ W, K0 w1 W → W.cell? ⟨b, o + i * 3 + 1, none⟩ = some (.int .i64 r.lo) := fun W k => (hat.k0 k).cell (j := 1) rfl
  have c2 : ∀ W, K0 w1 W → W.cell? ⟨b, o + i * 3 + 2, none⟩ = some (.int .i64 r.hi) := fun W k => (hat.k0 k).cell (j := 2) rfl
  have e0 : ∀ W, K0 w1 W → W.cell? ⟨b', o' + i * 3, none⟩ = some (.string r.pat) := fun W k => by simpa using (hat'.k0 k).cell (j := 0) rfl
  have e1 : ∀ W, K0 w1 W → W.cell? ⟨b', o' + i * 3 + 1, none⟩ = some (.int .i64 r.lo) := fun W k => (hat'.k0 k).cell (j := 1) rfl
  have e2 : ∀ W, K0 w1 W → W.cell? ⟨b', o' + i * 3 + 2, none⟩ = some (.int .i64 r.hi) := fun W k => (hat'.k0 k).cell (j := 2) rfl
  rw [Int.toNat_natCast]
  refine nn_is ep ⟨⟨by omega, by omega⟩, r.pat, fun W hW => c0 W (hW.kk rfl), nn_is eq ⟨⟨by omega, by omega⟩, r.pat, fun W hW => e0 W (hW.kk rfl), nn_is ep ⟨gimp_intro fun _ => ⟨by omega, by omega⟩, r.lo, gimp_intro fun _ => fun W hW => c1 W (hW.kk rfl), nn_is eq ⟨gimp_intro fun _ => ⟨by omega, by omega⟩, r.lo, gimp_intro fun _ => fun W hW => e1 W (hW.kk rfl),
    nn_is ep ⟨gimp_intro fun _ => ⟨by omega, by omega⟩, r.hi, gimp_intro fun _ => fun W hW => c2 W (hW.kk rfl), nn_is eq ⟨gimp_intro fun _ => ⟨by omega, by omega⟩, r.hi, gimp_intro fun _ => fun W hW => e2 W (hW.kk rfl), bsp_intro (fun h => by simp at h) (fun _ => fun W hW => ?_)⟩⟩⟩⟩⟩⟩
  exact ⟨⟨i + 1, by rw [inc64 (by omega)], hlt, k1.trans (hW.kk rfl)⟩, by rw [inc64 (by omega)]; simp only [Int.toNat_natCast]; omega⟩
theorem parseL_len : ∀ (f : Nat) (s : ByteArray) (line : Nat) (acc : List Rl), acc.length ≤ 64 → (parseL f s line acc).1.length ≤ 64
  | 0, _, _, _, _ => by simp [parseL]
  | f + 1, s, line, acc, h => by
    rw [parseL_succ]
    split
    · exact h
    split
    · simp
    split
    · simp
    split
    · simp
    · exact parseL_len f _ _ _ (by simp; omega)
theorem lexparse_any (s : ByteArray) (w : World) (hG : GX w) :
    Calls Tryz.prog 3 #[.string s] w fun e w' => e = .returned (.bool true) ∧ K0 w w' := by
  refine vc_lexparse s w _ ⟨(known_any w).mono fun e w1 ⟨he, k1⟩ => ⟨_, he, .of_k0 k1, bsp_intro (fun _ => ?_) (fun h => ?_)⟩⟩
  · exact ⟨(known_any w1).mono fun e w2 ⟨he, k2⟩ => ⟨_, he, .of_k0 k2, rfl, k1.trans k2⟩⟩
  have hs : s.size ≤ 600 := by simp at h; omega
  refine ⟨(eparse_any s w1 (by omega) (hG.k0 k1)).mono fun e w2 ⟨⟨p, c, he, ho⟩, k2⟩ => ⟨_, _, _, _, _, he, .of_k0 k2, ?_⟩⟩
  refine ⟨(rparse_any s w2 (by omega)).mono fun e w3 ⟨⟨q, d, he, ho'⟩, k3⟩ => ⟨_, _, _, _, _, he, .of_k0 k3, ?_⟩⟩
  have hl : (parseR s).1.length ≤ 64 := parseL_len _ _ _ _ (by simp)
  have hp : RowA rlC 3 w3 p (parseR s).1 := (RowA.own ho rlC_length (by decide)).k0 k3
  have hq : RowA rlC 3 w3 q (parseR s).1 := RowA.own ho' rlC_length (by decide)
  exact ⟨(lsame_any _ p c q d w3 hp hq (by omega)).mono fun e w4 ⟨he, k4⟩ => ⟨_, he, .of_k0 k4, by simp, ((k1.trans k2).trans k3).trans k4⟩⟩

end Go.Proofs.YtmjanmffnblcoaaGreatDoor

/- The formulas of functions by the symbolic evaluator, and that each gives the call's contract. Written by a program (gen.py). No condition. -/
namespace Go.Proofs.YtmjanmffnblcoaaGreatDoor
set_option maxRecDepth 100000
set_option linter.unusedVariables false

def VC_lrulesT (p : Option Addr) (n : Nat) (c : Nat) (w : World) (R : Ending → World → Prop) : Prop :=
 ∃ (I : List Value → World → Prop),
 ∃ (m : List Value → World → Nat),
 I [Value.int IntKind.i64 0, Value.slice none 0 0] w ∧
 ∀ (x : Int) (p_1 : Option Addr) (n_1 c : Nat) (w' : World),
 I [Value.int IntKind.i64 x, Value.slice p_1 n_1 c] w' →
 bsp (decide (x < (↑n : Int)))
 (∀ (W : World),
 Loc w.heap.size [] w' W →
 ∃ (S : World → Prop),
 S W ∧
 nn true p fun (b o : Nat) =>
 (0 ≤ x ∧ x < (↑n : Int)) ∧
 ∃ (x_1 : ByteArray),
 (∀ (w' : World), S w' → w'.cell? (Addr.mk b (o + x.toNat * 3) none) = some (Value.string x_1)) ∧
 nn true p fun (b o : Nat) =>
 (0 ≤ x ∧ x < (↑n : Int)) ∧
 ∃ (x_2 : Int),
 (∀ (w' : World),
 S w' → w'.cell? (Addr.mk b (o + x.toNat * 3 + 1) none) = some (Value.int IntKind.i64 x_2)) ∧
 nn true p fun (b o : Nat) =>
 (0 ≤ x ∧ x < (↑n : Int)) ∧
 ∃ (x_3 : Int),
 (∀ (w' : World),
 S w' → w'.cell? (Addr.mk b (o + x.toNat * 3 + 2) none) = some (Value.int IntKind.i64 x_3)) ∧
 ∀ (n : Nat) (w1 : World),
 NewB W (Obj.cells #[Value.string x_1, Value.int IntKind.i64 x_2, Value.int IntKind.i64 x_3] 40) n
 w1 →
 ∃ (base : Nat),
 ∃ (xs : List Value),
 ∃ (news : List Value),
 w1.ownsRow base 40 3 (Value.slice p_1 n_1 c) n_1 xs ∧
 news.length = 3 ∧
 SrcP w1 (some (Addr.mk n 0 none)) news ∧
 n_1 + 1 ≤ 9223372036854775807 ∧
 (n_1 + 1) * 32 ≤ 140737488355328 ∧
 base ≤ w1.heap.size ∧
 ∀ (p' : Option Addr) (c' : Nat) (w'_1 : World),
 w'_1.ownsRow base 40 3 (Value.slice p' (n_1 + 1) c') (n_1 + 1) (xs ++ news) →
 w1.grownBy w'_1 (Value.slice p_1 n_1 c).ownBlock →
 (n_1 + 1 ≤ c → p' = p_1 ∧ c' = c) →
 KeptL [] W w'_1 ∧
 I [Value.int IntKind.i64 (IntKind.i64.wrap (x + 1)), Value.slice p' (n_1 + 1) c']
 w'_1 ∧
 m [Value.int IntKind.i64 (IntKind.i64.wrap (x + 1)), Value.slice p' (n_1 + 1) c']
 w'_1 <
 m [Value.int IntKind.i64 x, Value.slice p_1 n_1 c] w')
 (R (Ending.returned (Value.slice p_1 n_1 c)) w')
theorem vc_lrulesT (p : Option Addr) (n : Nat) (c : Nat) (w : World) (R : Ending → World → Prop) (h : VC_lrulesT p n c w R) : Calls Tryz.prog 10 ([Value.slice
    p n c] : List Value).toArray w R := by
  have e : execR2 { P := Tryz.prog, loops := [(3, [(4, Ck.int IntKind.i64), (3, Ck.slice)])], pur := pur2, tails := [(5, 17)], joins := [], boxes := [] } Tryz.f10.results.toList R (Tryz.f10.body.getD .skip) (initF [Value.slice
    p n c] (Tryz.f10.ntmps - ([Value.slice p n c] : List Value).length)) w = VC_lrulesT p n c w R := by kernel_rfl
  have hb : Tryz.f10.body = some (Tryz.f10.body.getD .skip) := by kernel_rfl
  exact calls_of_exec2' (P := Tryz.prog) (fn := Tryz.f10) (c := Tryz.f10.body.getD .skip) (args := [Value.slice p n
    c]) (w := w) (R := R) pur2_ok Tryz.func10 hb e h

end Go.Proofs.YtmjanmffnblcoaaGreatDoor

/- Chapter 42: ExpiryText on worlds. -/
namespace Go.Proofs.YtmjanmffnblcoaaGreatDoor
open Go.RowKit

theorem lrulesT_any (L : List Rl) (p : Option Addr) (c : Nat) (w : World) (hR : RowA rlC 3 w p L) (hl : L.length ≤ 1000) :
    Calls Tryz.prog 10 #[.slice p L.length c] w fun e w' => ∃ (p' : Option Addr) (c' : Nat), e = .returned (.slice p' L.length c') ∧ w'.ownsRow w.heap.size 40 3 (.slice p' L.length c') L.length (L.flatMap rlC) ∧ K0 w w' := by
  refine vc_lrulesT p L.length c w _ ?_
  refine ⟨fun vs w' => ∃ (i : Nat) (p' : Option Addr) (c' : Nat), vs = [.int .i64 (i : Int), .slice p' i c'] ∧ i ≤ L.length ∧ w'.ownsRow w.heap.size 40 3 (.slice p' i c') i ((L.take i).flatMap rlC) ∧ K0 w w',
    fun vs _ => (match vs with | .int _ x :: _ => L.length - x.toNat | _ => 0), ⟨0, none, 0, rfl, by omega, World.ownsRow_nil _ _ _ _, .refl _ _⟩, ?_⟩
  rintro x p1 n1 c1 w1 ⟨i, p1', c1', hv, hi, ho, k1⟩
  simp only [List.cons.injEq, Value.int.injEq, Value.slice.injEq, true_and, and_true] at hv
  obtain ⟨rfl, rfl, rfl, rfl⟩ := hv
  refine bsp_intro (fun hlt => ?_) (fun hge => ?_)
  · have hlt : n1 < L.length := by simp at hlt; omega
    intro W2 hW2
    have k2 : K0 w1 W2 := hW2.kk rfl
    obtain ⟨r, b, o, hr, hp, hat⟩ := (hR.k0 (k1.trans k2)).get hlt
    refine ⟨fun wx => K0 W2 wx, .refl _ _, nn_eq hp ⟨by omega, r.pat, fun wx kx => ?_, nn_eq hp ⟨by omega, r.lo, fun wx kx => ?_, nn_eq hp ⟨by omega, r.hi, fun wx kx => ?_, fun n3 w3 hn3 => ?_⟩⟩⟩⟩
    · rw [Int.toNat_natCast]; simpa using (hat.k0 kx).cell (j := 0) rfl
    · rw [Int.toNat_natCast]; exact (hat.k0 kx).cell (j := 1) rfl
    · rw [Int.toNat_natCast]; exact (hat.k0 kx).cell (j := 2) rfl
    have k3 : K0 W2 w3 := hn3.kp _
    refine app1 (owns_kp ho k2 (fun _ _ h => h)) (Nat.le_trans k1.size k2.size) hn3 rfl (by intro u hu; simp at hu; rcases hu with rfl | rfl | rfl <;> rfl) (by omega) (by omega) (fun p'' c'' w4 ho4 hk4 _ => ?_)
    have hoo := owns_kp ho k2 (fun _ _ h => h)
    have kk : K0 w w4 := (k1.trans k2).fresh hk4 (fun j hj e => by have := own_ge hoo e; omega)
    refine ⟨.of_kp hk4 (fun z hz => by cases hz), ⟨n1 + 1, p'', c'', by rw [inc64 (by omega)], hlt, ?_, kk⟩, by rw [inc64 (by omega)]; simp only [Int.toNat_natCast]; omega⟩
    rw [take_snoc hr, List.flatMap_append]
    simpa [rlC] using ho4
  · have hi : n1 = L.length := by simp at hge; omega
    subst hi
    rw [List.take_length] at ho
    exact ⟨p1, c1, rfl, ho, k1⟩

theorem lextext_any (L : List Rl) (p : Option Addr) (c : Nat) (w : World) (hR : RowA rlC 3 w p L) (hG : GX w) (hT : GT w) :
    Calls Tryz.prog 4 #[.slice p L.length c] w fun e w' => e = .returned (.bool true) ∧ K0 w w' := by
  refine vc_lextext p L.length c w _ ⟨(known_any w).mono fun e w1 ⟨he, k1⟩ => ⟨_, he, .of_k0 k1, bsp_intro (fun _ => ?_) (fun h => ?_)⟩⟩
  · exact ⟨(known_any w1).mono fun e w2 ⟨he, k2⟩ => ⟨_, he, .of_k0 k2, rfl, k1.trans k2⟩⟩
  have hl : L.length ≤ 80 := by simp at h; omega
  refine ⟨fun vs w' => ∃ i : Nat, vs = [.int .i64 (i : Int)] ∧ i ≤ L.length ∧ K0 w w',
    fun vs _ => (match vs with | .int _ x :: _ => L.length - x.toNat | _ => 0), ⟨0, rfl, by omega, k1⟩, ?_⟩
  rintro x w2 ⟨i, hv, hi, k2⟩
  simp only [List.cons.injEq, Value.int.injEq, true_and, and_true] at hv
  subst hv
  refine bsp_intro (fun hlt => ?_) (fun _ => ?_)
  · have hlt : i < L.length := by simp at hlt; omega
    obtain ⟨r, b, o, hr, hp, hat⟩ := (hR.k0 k2).get hlt
    rw [Int.toNat_natCast]
    refine nn_is hp ⟨⟨by omega, by omega⟩, r.pat, by simpa using hat.cell (j := 0) rfl, bsp_intro (fun _ => ⟨rfl, k2⟩) (fun _ => ⟨⟨i + 1, by rw [inc64 (by omega)], hlt, k2⟩, by rw [inc64 (by omega)]; simp only [Int.toNat_natCast]; omega⟩)⟩
  refine ⟨(lrulesT_any L p c w2 (hR.k0 k2) (by omega)).mono fun e w3 ⟨p1, c1, he, ho, k3⟩ => ⟨_, _, _, he, .of_k0 k3, ?_⟩⟩
  have k03 := k2.trans k3
  have hR1 : RowA rlC 3 w3 p1 L := RowA.own ho rlC_length (by decide)
  refine ⟨(eprint_any L p1 c1 w3 hR1 (hT.k0 k03)).mono fun e w4 ⟨he, k4⟩ => ⟨_, _, he, .of_k0 k4, ?_⟩⟩
  have k04 := k03.trans k4
  refine ⟨(rprint_any L p c w4 (hR.k0 k04)).mono fun e w5 ⟨he, k5⟩ => ⟨_, _, he, .of_k0 k5, bsp_intro (fun h => by simp at h) (fun _ => bsp_intro (fun _ => ⟨rfl, k04.trans k5⟩) (fun h0 => ?_))⟩⟩
  have h0 : chkR L = 0 := by simpa using h0
  have k05 := k04.trans k5
  have hF : rlF L = 0 := by
    unfold chkR at h0
    split at h0
    · cases h0
    · exact h0
  rw [if_pos h0]
  have hz := (txtF_size hF).2
  refine ⟨(eparse_any (txtF L) w5 (by omega) (hG.k0 k05)).mono fun e w6 ⟨⟨q, d, he, ho'⟩, k6⟩ => ⟨_, _, _, _, _, he, .of_k0 k6, ?_⟩⟩
  rw [parse_back h0] at he ho' ⊢
  refine bsp_intro (fun _ => ?_) (fun h => by simp at h)
  have hq : RowA rlC 3 w6 q L := RowA.own ho' rlC_length (by decide)
  exact ⟨(lsame_any L q d p c w6 hq (hR.k0 (k05.trans k6)) (by omega)).mono fun e w7 ⟨he, k7⟩ => ⟨_, he, .of_k0 k7, by simp, (k05.trans k6).trans k7⟩⟩

end Go.Proofs.YtmjanmffnblcoaaGreatDoor

/- Chapter 42: rules as an argument, with their sizes; the table of powers of ten. No condition. -/
namespace Go.Proofs.YtmjanmffnblcoaaGreatDoor
open Go.ChangeShapes Go.WideShapes Go.ChangeAt Go.RowKit Go.Deep

theorem list_of {α : Type} [Inhabited α] {n : Nat} {Q : Nat → α → Prop} (h : ∀ i, i < n → ∃ y, Q i y) : ∃ l : List α, l.length = n ∧ ∀ i y, l[i]? = some y → Q i y := by
  have hex : ∃ g : Nat → α, ∀ i, i < n → Q i (g i) := by
    refine ⟨fun i => if h' : i < n then Classical.choose (h i h') else default, fun i hi => ?_⟩
    simp only [hi, dif_pos]
    exact Classical.choose_spec (h i hi)
  obtain ⟨g, hg⟩ := hex
  refine ⟨(List.range n).map g, by simp, fun i y hy => ?_⟩
  rw [List.getElem?_map] at hy
  rcases Nat.lt_or_ge i n with h' | h'
  · simp [h'] at hy
    subst hy
    exact hg i h'
  · simp [h'] at hy
instance : Inhabited Rl := ⟨⟨ByteArray.empty, 0, 0⟩⟩
section
variable {H : Type} {enc : TypeId × Value → H} {W : World} {base : Nat} {v : Value}
theorem cellsR42 : Tryz.prog.cellsOf 33 = 3 := by kernel_rfl
set_option maxRecDepth 100000 in
/-- Rules that were read. -/
theorem open_RL {cs : List Value} (hr : Rw enc Tryz.prog W 27 cs) : ∃ (p : Option Addr) (L : List Rl) (c : Nat), cs = [.slice p L.length c] ∧ RowA rlC 3 W p L ∧ L.length ≤ c ∧ L.length ≤ 4611686018427387904 := by
  obtain ⟨p, n, c, hcs, hnc, hby, _, hel⟩ := hr.slice Tryz.underlying27 (by rw [cellsR42]; decide)
  rw [cellsR42] at hel
  rw [show Tryz.prog.bytesOf 33 = 32 by kernel_rfl] at hby
  have key : ∀ i, i < n → ∃ y : Rl, ∃ b o, p = some ⟨b, o, none⟩ ∧ AtL W b (o + i * 3) (rlC y) := fun i hi => by
    obtain ⟨b, o, cs', hp, hl, hc, hrw⟩ := hel i hi
    match cs', hl with
    | [c0, c1, c2], _ =>
      obtain ⟨s, e0, _⟩ := Rw.str (cs := [c0]) (hrw.field Tryz.underlying33 (i := 0) rfl) Tryz.underlying9
      obtain ⟨n1, e1, _⟩ := Rw.int64 (cs := [c1]) (hrw.field Tryz.underlying33 (i := 1) rfl) Tryz.underlying3
      obtain ⟨n2, e2, _⟩ := Rw.int64 (cs := [c2]) (hrw.field Tryz.underlying33 (i := 2) rfl) Tryz.underlying3
      simp only [List.cons.injEq, and_true] at e0 e1 e2
      subst e0 e1 e2
      exact ⟨⟨s, n1, n2⟩, b, o, hp, ⟨At_of _ _ fun j v hv => hc j v hv⟩⟩
  obtain ⟨L, hlen, hL⟩ := list_of key
  exact ⟨p, L, c, by rw [hlen]; exact hcs, hL, by omega, by omega⟩
set_option maxRecDepth 100000 in
theorem openw_RL (hv : Value.okWide Tryz.prog W .any base 27 v) (hr : Rw enc Tryz.prog W 27 v.cells.toList) : ∃ (p : Option Addr) (L : List Rl) (c : Nat), v = .slice p L.length c ∧ RowA rlC 3 W p L ∧ L.length ≤ 4611686018427387904 := by
  obtain ⟨p, n, c, rfl⟩ := okWide_slice Tryz.underlying27 hv
  obtain ⟨p', L, c', h, h1, _, h2⟩ := open_RL hr
  have h : [Value.slice p n c] = [.slice p' L.length c'] := h
  simp only [List.cons.injEq, and_true] at h
  exact ⟨p', L, c', h, h1, h2⟩
end
theorem gt_of {l : List (String × DataW Unit)} {d : DataW Unit} {W : World} (h : laidMetH Tryz.prog l W) (hl : l.filter (fun x => x.1 == "internal/strconv.uint64pow10") = [("internal/strconv.uint64pow10", d)])
    (hd : d = Lib.tabData .u64 Lib.pow10Tab) : GT W := by
  have h1 := h.filter (fun x => x.1 == "internal/strconv.uint64pow10")
  rw [hl, hd] at h1
  have h2 := (laidMetH_iff.1 h1).1
  exact Lib.tabIs_of_head (rest := []) (g := 1) (t := 185) (e := 160) (n := 20) (by kernel_rfl) (by kernel_rfl) Tryz.underlying185 Tryz.underlying160 (by kernel_rfl) (by kernel_rfl) h2

end Go.Proofs.YtmjanmffnblcoaaGreatDoor
