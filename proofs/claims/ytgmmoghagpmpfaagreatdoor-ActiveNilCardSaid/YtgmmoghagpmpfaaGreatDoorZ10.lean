/- The formulas of functions by the symbolic evaluator, and that each gives the call's contract. Written by a program (gen.py). No condition. -/
import Derived.Test.YtgmmoghagpmpfaaGreatDoorProg
import Derived.Test.YtgmmoghagpmpfaaGreatDoorZ02
import Derived.Test.YtgmmoghagpmpfaaGreatDoorZ04
import Derived.KernelRfl
namespace Go.Proofs.YtgmmoghagpmpfaaGreatDoor
set_option maxRecDepth 100000
set_option linter.unusedVariables false

def VC_acrtext (p : Option Addr) (n : Nat) (c : Nat) (w : World) (R : Ending → World → Prop) : Prop :=
 ∃ (I : List Value → World → Prop),
 ∃ (m : List Value → World → Nat),
 I [Value.int IntKind.i64 0, Value.slice none 0 0] w ∧
 ∀ (x : Int) (p_1 : Option Addr) (n_1 c : Nat) (w' : World),
 I [Value.int IntKind.i64 x, Value.slice p_1 n_1 c] w' →
 bsp (decide (x < (↑n : Int)))
 (nn true p fun (b o : Nat) =>
 (0 ≤ x ∧ x < (↑n : Int)) ∧
 ∃ (x_1 : Int),
 ∃ (x_2 : Int),
 AtL w' b (o + x.toNat * 2) [Value.int IntKind.i64 x_1, Value.int IntKind.i64 x_2] ∧
 ∀ (n : Nat) (W : World),
 Loc w.heap.size [Blk.mk n 105 [Value.int IntKind.i64 x_1, Value.int IntKind.i64 x_2] (wrM 2)] w' W →
 CallsS Tryz.prog 46 #[Value.int IntKind.i64 x_1] W fun (e : Ending) (w'_1 : World) =>
 ∃ (x_3 : ByteArray),
 e = Ending.returned (Value.string x_3) ∧
 KeptL [n] W w'_1 ∧
 bsp (decide (x_2 > x_1))
 (CallsS Tryz.prog 46 #[Value.int IntKind.i64 x_2] w'_1 fun (e : Ending) (w'_2 : World) =>
 ∃ (x_4 : ByteArray),
 e = Ending.returned (Value.string x_4) ∧
 KeptL [n] w'_1 w'_2 ∧
 (9223372036854775807 - (↑((ByteArray.mk #[45]).size + x_4.size) : Int)).NonNeg ∧
 (9223372036854775807 - (↑(x_3.size + (ByteArray.mk #[45] ++ x_4).size) : Int)).NonNeg ∧
 ∀ (n_2 : Nat) (W : World),
 Loc w.heap.size
 [Blk.mk n_2 9 [Value.string (x_3 ++ (ByteArray.mk #[45] ++ x_4))] 2,
 Blk.mk n 105 [Value.int IntKind.i64 x_1, Value.int IntKind.i64 x_2] 0]
 w'_2 W →
 ∃ (base : Nat),
 ∃ (xs : List Value),
 W.ownsRow base 9 1 (Value.slice p_1 n_1 c) n_1 xs ∧
 n_1 + 1 ≤ 9223372036854775807 ∧
 (n_1 + 1) * 16 ≤ 140737488355328 ∧
 base ≤ W.heap.size ∧
 ∀ (p' : Option Addr) (c' : Nat) (w'_3 : World),
 w'_3.ownsRow base 9 1 (Value.slice p' (n_1 + 1) c') (n_1 + 1)
 (xs ++ [Value.string (x_3 ++ (ByteArray.mk #[45] ++ x_4))]) →
 W.grownBy w'_3 (Value.slice p_1 n_1 c).ownBlock →
 AppL W p_1 n_1 c 1 p' c' →
 KeptL [n] W w'_3 ∧
 I [Value.int IntKind.i64 (IntKind.i64.wrap (x + 1)), Value.slice p' (n_1 + 1) c']
 w'_3 ∧
 m [Value.int IntKind.i64 (IntKind.i64.wrap (x + 1)), Value.slice p' (n_1 + 1) c']
 w'_3 <
 m [Value.int IntKind.i64 x, Value.slice p_1 n_1 c] w')
 (∀ (n_2 : Nat) (W : World),
 Loc w.heap.size
 [Blk.mk n_2 9 [Value.string x_3] 2,
 Blk.mk n 105 [Value.int IntKind.i64 x_1, Value.int IntKind.i64 x_2] 0]
 w'_1 W →
 ∃ (base : Nat),
 ∃ (xs : List Value),
 W.ownsRow base 9 1 (Value.slice p_1 n_1 c) n_1 xs ∧
 n_1 + 1 ≤ 9223372036854775807 ∧
 (n_1 + 1) * 16 ≤ 140737488355328 ∧
 base ≤ W.heap.size ∧
 ∀ (p' : Option Addr) (c' : Nat) (w'_2 : World),
 w'_2.ownsRow base 9 1 (Value.slice p' (n_1 + 1) c') (n_1 + 1) (xs ++ [Value.string x_3]) →
 W.grownBy w'_2 (Value.slice p_1 n_1 c).ownBlock →
 AppL W p_1 n_1 c 1 p' c' →
 KeptL [n] W w'_2 ∧
 I [Value.int IntKind.i64 (IntKind.i64.wrap (x + 1)), Value.slice p' (n_1 + 1) c'] w'_2 ∧
 m [Value.int IntKind.i64 (IntKind.i64.wrap (x + 1)), Value.slice p' (n_1 + 1) c'] w'_2 <
 m [Value.int IntKind.i64 x, Value.slice p_1 n_1 c] w'))
 (CallsS Tryz.prog 49 #[Value.slice p_1 n_1 c, Value.string (ByteArray.mk #[44])] w'
 fun (e : Ending) (w'_1 : World) =>
 ∃ (x : ByteArray),
 e = Ending.returned (Value.string x) ∧ KeptL [] w' w'_1 ∧ R (Ending.returned (Value.string x)) w'_1)
theorem vc_acrtext (p : Option Addr) (n : Nat) (c : Nat) (w : World) (R : Ending → World → Prop) (h : VC_acrtext p n c w R) : Calls Tryz.prog 47 ([Value.slice
    p n c] : List Value).toArray w R := by
  have e : execR2 { P := Tryz.prog, loops := [(3, [(9, Ck.int IntKind.i64), (3, Ck.slice)])], pur := pur1, tails := [], joins := [], boxes := [] } Tryz.f47.results.toList R (Tryz.f47.body.getD .skip) (initF [Value.slice
    p n c] (Tryz.f47.ntmps - ([Value.slice p n c] : List Value).length)) w = VC_acrtext p n c w R := by kernel_rfl
  have hb : Tryz.f47.body = some (Tryz.f47.body.getD .skip) := by kernel_rfl
  exact calls_of_exec2' (P := Tryz.prog) (fn := Tryz.f47) (c := Tryz.f47.body.getD .skip) (args := [Value.slice p n
    c]) (w := w) (R := R) pur1_ok Tryz.func47 hb e h

def VC_acpranges (s : ByteArray) (zh : Int) (w : World) (R : Ending → World → Prop) : Prop :=
 CallsS Tryz.prog 68 #[Value.string s, Value.string (ByteArray.mk #[44])] w fun (e : Ending) (w' : World) =>
 ∃ (p : Option Addr),
 ∃ (n : Nat),
 ∃ (c : Nat),
 e = Ending.returned (Value.slice p n c) ∧
 KeptL [] w w' ∧
 ∃ (I : List Value → World → Prop),
 ∃ (m : List Value → World → Nat),
 I [Value.int IntKind.i64 0, Value.slice none 0 0, Value.int IntKind.i64 1] w' ∧
 ∀ (x : Int) (p_1 : Option Addr) (n_1 c : Nat) (x_1 : Int) (w' : World),
 I [Value.int IntKind.i64 x, Value.slice p_1 n_1 c, Value.int IntKind.i64 x_1] w' →
 bsp (decide (x < (↑n : Int)))
 (nn true p fun (b o : Nat) =>
 (0 ≤ x ∧ x < (↑n : Int)) ∧
 ∃ (x_2 : ByteArray),
 w'.cell? (Addr.mk b (o + x.toNat) none) = some (Value.string x_2) ∧
 CallsS Tryz.prog 42 #[Value.string x_2, Value.string (ByteArray.mk #[45])] w'
 fun (e : Ending) (w'_1 : World) =>
 ∃ (x_3 : ByteArray),
 ∃ (x_4 : ByteArray),
 ∃ (x_5 : Bool),
 e = Ending.returned (Value.tuple #[Value.string x_3, Value.string x_4, Value.bool x_5]) ∧
 KeptL [] w' w'_1 ∧
 CallsS Tryz.prog 69 #[Value.string x_3, Value.int IntKind.i64 zh] w'_1
 fun (e : Ending) (w'_2 : World) =>
 ∃ (x_6 : Int),
 ∃ (x_7 : Int),
 e = Ending.returned (Value.tuple #[Value.int IntKind.i64 x_6, Value.int IntKind.i64 x_7]) ∧
 KeptL [] w'_1 w'_2 ∧
 bsp (x_7 != 0 || decide (x_6 < x_1))
 (R (Ending.returned (Value.tuple #[Value.slice none 0 0, Value.bool false])) w'_2)
 (bsp x_5
 (CallsS Tryz.prog 69 #[Value.string x_4, Value.int IntKind.i64 zh] w'_2
 fun (e : Ending) (w'_3 : World) =>
 ∃ (x_8 : Int),
 ∃ (x_9 : Int),
 e =
 Ending.returned
 (Value.tuple #[Value.int IntKind.i64 x_8, Value.int IntKind.i64 x_9]) ∧
 KeptL [] w'_2 w'_3 ∧
 bsp (x_9 != 0 || decide (x_8 ≤ x_6))
 (R (Ending.returned (Value.tuple #[Value.slice none 0 0, Value.bool false])) w'_3)
 (∀ (n : Nat) (W : World),
 Loc w.heap.size
 [Blk.mk n 105 [Value.int IntKind.i64 x_6, Value.int IntKind.i64 x_8] 2] w'_3 W →
 ∃ (base : Nat),
 ∃ (xs : List Value),
 W.ownsRow base 105 2 (Value.slice p_1 n_1 c) n_1 xs ∧
 n_1 + 1 ≤ 9223372036854775807 ∧
 (n_1 + 1) * 16 ≤ 140737488355328 ∧
 base ≤ W.heap.size ∧
 ∀ (p' : Option Addr) (c' : Nat) (w'_4 : World),
 w'_4.ownsRow base 105 2 (Value.slice p' (n_1 + 1) c') (n_1 + 1)
 (xs ++ [Value.int IntKind.i64 x_6, Value.int IntKind.i64 x_8]) →
 W.grownBy w'_4 (Value.slice p_1 n_1 c).ownBlock →
 AppL W p_1 n_1 c 1 p' c' →
 KeptL [] W w'_4 ∧
 I
 [Value.int IntKind.i64 (IntKind.i64.wrap (x + 1)),
 Value.slice p' (n_1 + 1) c',
 Value.int IntKind.i64 (IntKind.i64.wrap (x_8 + 2))]
 w'_4 ∧
 m
 [Value.int IntKind.i64 (IntKind.i64.wrap (x + 1)),
 Value.slice p' (n_1 + 1) c',
 Value.int IntKind.i64 (IntKind.i64.wrap (x_8 + 2))]
 w'_4 <
 m
 [Value.int IntKind.i64 x, Value.slice p_1 n_1 c,
 Value.int IntKind.i64 x_1]
 w'))
 (∀ (n : Nat) (W : World),
 Loc w.heap.size [Blk.mk n 105 [Value.int IntKind.i64 x_6, Value.int IntKind.i64 x_6] 2]
 w'_2 W →
 ∃ (base : Nat),
 ∃ (xs : List Value),
 W.ownsRow base 105 2 (Value.slice p_1 n_1 c) n_1 xs ∧
 n_1 + 1 ≤ 9223372036854775807 ∧
 (n_1 + 1) * 16 ≤ 140737488355328 ∧
 base ≤ W.heap.size ∧
 ∀ (p' : Option Addr) (c' : Nat) (w'_3 : World),
 w'_3.ownsRow base 105 2 (Value.slice p' (n_1 + 1) c') (n_1 + 1)
 (xs ++ [Value.int IntKind.i64 x_6, Value.int IntKind.i64 x_6]) →
 W.grownBy w'_3 (Value.slice p_1 n_1 c).ownBlock →
 AppL W p_1 n_1 c 1 p' c' →
 KeptL [] W w'_3 ∧
 I
 [Value.int IntKind.i64 (IntKind.i64.wrap (x + 1)),
 Value.slice p' (n_1 + 1) c',
 Value.int IntKind.i64 (IntKind.i64.wrap (x_6 + 2))]
 w'_3 ∧
 m
 [Value.int IntKind.i64 (IntKind.i64.wrap (x + 1)),
 Value.slice p' (n_1 + 1) c',
 Value.int IntKind.i64 (IntKind.i64.wrap (x_6 + 2))]
 w'_3 <
 m
 [Value.int IntKind.i64 x, Value.slice p_1 n_1 c, Value.int IntKind.i64 x_1]
 w')))
 (R (Ending.returned (Value.tuple #[Value.slice p_1 n_1 c, Value.bool true])) w')
theorem vc_acpranges (s : ByteArray) (zh : Int) (w : World) (R : Ending → World → Prop) (h : VC_acpranges s zh w R) : Calls Tryz.prog 70 ([Value.string
    s,
  Value.int IntKind.i64 zh] : List Value).toArray w R := by
  have e : execR2 { P := Tryz.prog, loops := [(4, [(19, Ck.int IntKind.i64), (6, Ck.slice), (7, Ck.int IntKind.i64)])], pur := pur1, tails := [], joins := [], boxes := [] } Tryz.f70.results.toList R (Tryz.f70.body.getD .skip) (initF [Value.string
    s,
  Value.int IntKind.i64
    zh] (Tryz.f70.ntmps - ([Value.string s,
  Value.int IntKind.i64 zh] : List Value).length)) w = VC_acpranges s zh w R := by kernel_rfl
  have hb : Tryz.f70.body = some (Tryz.f70.body.getD .skip) := by kernel_rfl
  exact calls_of_exec2' (P := Tryz.prog) (fn := Tryz.f70) (c := Tryz.f70.body.getD .skip) (args := [Value.string s,
  Value.int IntKind.i64 zh]) (w := w) (R := R) pur1_ok Tryz.func70 hb e h

def VC_acpline (s : ByteArray) (t : ByteArray) (w : World) (R : Ending → World → Prop) : Prop :=
 ∀ (n : Nat) (W : World),
 Loc w.heap.size [Blk.mk n 94 [Value.int IntKind.i64 0, Value.bool false, Value.slice none 0 0] 2] w W →
 CallsS Tryz.prog 68 #[Value.string s, Value.string (ByteArray.mk #[32])] W fun (e : Ending) (w' : World) =>
 ∃ (p : Option Addr),
 ∃ (n_1 : Nat),
 ∃ (c : Nat),
 e = Ending.returned (Value.slice p n_1 c) ∧
 KeptL [n] W w' ∧
 bsp (!(decide ((↑n_1 : Int) < 3) || decide ((↑n_1 : Int) > 4)))
 (CallsS Tryz.prog 60 #[Value.slice p n_1 c, Value.string (ByteArray.mk #[])] w'
 fun (e : Ending) (w'_1 : World) =>
 ∃ (x : Bool),
 e = Ending.returned (Value.bool x) ∧
 KeptL [n] w' w'_1 ∧
 bsp (false || x)
 (∀ (W : World),
 Loc w.heap.size [Blk.mk n 94 [Value.int IntKind.i64 0, Value.bool false, Value.slice none 0 0] (wrM 0)]
 w'_1 W →
 R
 (Ending.returned
 (Value.tuple
 #[Value.string (ByteArray.mk #[]),
 Value.agg #[Value.int IntKind.i64 0, Value.bool false, Value.slice none 0 0],
 Value.int IntKind.i64 3]))
 W)
 (nn true p fun (b o : Nat) =>
 ((0 : Int) ≤ 0 ∧ 0 < (↑n_1 : Int)) ∧
 ∃ (x : ByteArray),
 w'_1.cell? (Addr.mk b o none) = some (Value.string x) ∧
 CallsS Tryz.prog 64 #[Value.string x] w'_1 fun (e : Ending) (w' : World) =>
 ∃ (x_1 : Int),
 e = Ending.returned (Value.int IntKind.i64 x_1) ∧
 KeptL [n] w'_1 w' ∧
 bsp (x_1 != 0)
 (∀ (W : World),
 Loc w.heap.size
 [Blk.mk n 94 [Value.int IntKind.i64 0, Value.bool false, Value.slice none 0 0] (wrM 0)] w' W →
 R
 (Ending.returned
 (Value.tuple
 #[Value.string (ByteArray.mk #[]),
 Value.agg #[Value.int IntKind.i64 0, Value.bool false, Value.slice none 0 0],
 Value.int IntKind.i64 x_1]))
 W)
 (bsp (!t.toList == [])
 (CallsS Tryz.prog 52 #[Value.string t, Value.string x] w' fun (e : Ending) (w'_2 : World) =>
 ∃ (x_2 : Int),
 e = Ending.returned (Value.int IntKind.i64 x_2) ∧
 KeptL [n] w' w'_2 ∧
 bsp (true && decide (x_2 ≥ 0))
 (∀ (W : World),
 Loc w.heap.size
 [Blk.mk n 94 [Value.int IntKind.i64 0, Value.bool false, Value.slice none 0 0] (wrM 0)]
 w'_2 W →
 R
 (Ending.returned
 (Value.tuple
 #[Value.string (ByteArray.mk #[]),
 Value.agg #[Value.int IntKind.i64 0, Value.bool false, Value.slice none 0 0],
 Value.int IntKind.i64 30]))
 W)
 (nn true p fun (b o : Nat) =>
 ((0 : Int) ≤ 1 ∧ 1 < (↑n_1 : Int)) ∧
 ∃ (x_3 : ByteArray),
 w'_2.cell? (Addr.mk b (o + 1) none) = some (Value.string x_3) ∧
 CallsS Tryz.prog 69 #[Value.string x_3, Value.int IntKind.i64 2147483646] w'_2
 fun (e : Ending) (w' : World) =>
 ∃ (x_4 : Int),
 ∃ (x_5 : Int),
 e =
 Ending.returned
 (Value.tuple #[Value.int IntKind.i64 x_4, Value.int IntKind.i64 x_5]) ∧
 KeptL [n] w'_2 w' ∧
 bsp (x_5 != 0)
 (∀ (W : World),
 Loc w.heap.size
 [Blk.mk n 94 [Value.int IntKind.i64 0, Value.bool false, Value.slice none 0 0]
 (wrM 0)]
 w' W →
 R
 (Ending.returned
 (Value.tuple
 #[Value.string (ByteArray.mk #[]),
 Value.agg
 #[Value.int IntKind.i64 0, Value.bool false, Value.slice none 0 0],
 Value.int IntKind.i64 2]))
 W)
 (nn true p fun (b o : Nat) =>
 ((0 : Int) ≤ 2 ∧ 2 < (↑n_1 : Int)) ∧
 ∃ (x_6 : ByteArray),
 w'.cell? (Addr.mk b (o + 2) none) = some (Value.string x_6) ∧
 nn (!x_6.toList == [(ByteArray.mk #[121]).get! 0]) p fun (b o : Nat) =>
 gimp (!x_6.toList == [(ByteArray.mk #[121]).get! 0])
 ((0 : Int) ≤ 2 ∧ 2 < (↑n_1 : Int)) ∧
 ∃ (x_7 : ByteArray),
 gimp (!x_6.toList == [(ByteArray.mk #[121]).get! 0])
 (w'.cell? (Addr.mk b (o + 2) none) = some (Value.string x_7)) ∧
 bsp
 (!x_6.toList == [(ByteArray.mk #[121]).get! 0] &&
 !x_7.toList == [(ByteArray.mk #[110]).get! 0])
 (∀ (W : World),
 Loc w.heap.size
 [Blk.mk n 94
 [Value.int IntKind.i64 0, Value.bool false, Value.slice none 0 0]
 (wrM 0)]
 w' W →
 R
 (Ending.returned
 (Value.tuple
 #[Value.string (ByteArray.mk #[]),
 Value.agg
 #[Value.int IntKind.i64 0, Value.bool false,
 Value.slice none 0 0],
 Value.int IntKind.i64 3]))
 W)
 (nn true p fun (b o : Nat) =>
 ((0 : Int) ≤ 2 ∧ 2 < (↑n_1 : Int)) ∧
 ∃ (x_8 : ByteArray),
 w'.cell? (Addr.mk b (o + 2) none) = some (Value.string x_8) ∧
 ∀ (n_2 : Nat),
 bsp ((↑n_1 : Int) == 4)
 (nn true p fun (b o : Nat) =>
 ((0 : Int) ≤ 3 ∧ 3 < (↑n_1 : Int)) ∧
 ∃ (x_9 : ByteArray),
 (∀ (W : World),
 Loc w.heap.size
 [Blk.mk n_2 94
 [Value.int IntKind.i64 x_4,
 Value.bool
 (x_8.toList == [(ByteArray.mk #[110]).get! 0]),
 Value.slice none 0 0]
 (wrM 2),
 Blk.mk n 94
 [Value.int IntKind.i64 0, Value.bool false,
 Value.slice none 0 0]
 0]
 w' W →
 W.cell? (Addr.mk b (o + 3) none) =
 some (Value.string x_9)) ∧
 ∀ (W : World),
 Loc w.heap.size
 [Blk.mk n_2 94
 [Value.int IntKind.i64 x_4,
 Value.bool
 (x_8.toList == [(ByteArray.mk #[110]).get! 0]),
 Value.slice none 0 0]
 (wrM 2),
 Blk.mk n 94
 [Value.int IntKind.i64 0, Value.bool false,
 Value.slice none 0 0]
 0]
 w' W →
 CallsS Tryz.prog 70
 #[Value.string x_9, Value.int IntKind.i64 x_4] W
 fun (e : Ending) (w' : World) =>
 ∃ (p : Option Addr),
 ∃ (n_3 : Nat),
 ∃ (c : Nat),
 ∃ (x_10 : Bool),
 e =
 Ending.returned
 (Value.tuple
 #[Value.slice p n_3 c, Value.bool x_10]) ∧
 KeptL [n_2, n] W w' ∧
 bsp (!x_10)
 (∀ (W : World),
 Loc w.heap.size
 [Blk.mk n_2 94
 [Value.int IntKind.i64 x_4,
 Value.bool
 (x_8.toList ==
 [(ByteArray.mk #[110]).get! 0]),
 Value.slice none 0 0]
 0,
 Blk.mk n 94
 [Value.int IntKind.i64 0, Value.bool false,
 Value.slice none 0 0]
 (wrM 0)]
 w' W →
 R
 (Ending.returned
 (Value.tuple
 #[Value.string (ByteArray.mk #[]),
 Value.agg
 #[Value.int IntKind.i64 0, Value.bool false,
 Value.slice none 0 0],
 Value.int IntKind.i64 3]))
 W)
 (∀ (W : World),
 Loc w.heap.size
 [Blk.mk n_2 94
 [Value.int IntKind.i64 x_4,
 Value.bool
 (x_8.toList ==
 [(ByteArray.mk #[110]).get! 0]),
 Value.slice p n_3 c]
 (wrM 0),
 Blk.mk n 94
 [Value.int IntKind.i64 x_4,
 Value.bool
 (x_8.toList ==
 [(ByteArray.mk #[110]).get! 0]),
 Value.slice p n_3 c]
 (wrM 0)]
 w' W →
 R
 (Ending.returned
 (Value.tuple
 #[Value.string x,
 Value.agg
 #[Value.int IntKind.i64 x_4,
 Value.bool
 (x_8.toList ==
 [(ByteArray.mk #[110]).get! 0]),
 Value.slice p n_3 c],
 Value.int IntKind.i64 0]))
 W))
 (∀ (W : World),
 Loc w.heap.size
 [Blk.mk n_2 94
 [Value.int IntKind.i64 x_4,
 Value.bool (x_8.toList == [(ByteArray.mk #[110]).get! 0]),
 Value.slice none 0 0]
 (wrM 2),
 Blk.mk n 94
 [Value.int IntKind.i64 x_4,
 Value.bool (x_8.toList == [(ByteArray.mk #[110]).get! 0]),
 Value.slice none 0 0]
 (wrM 0)]
 w' W →
 R
 (Ending.returned
 (Value.tuple
 #[Value.string x,
 Value.agg
 #[Value.int IntKind.i64 x_4,
 Value.bool (x_8.toList == [(ByteArray.mk #[110]).get! 0]),
 Value.slice none 0 0],
 Value.int IntKind.i64 0]))
 W)))))
 (KeptL [n] w' w' ∧
 nn true p fun (b o : Nat) =>
 ((0 : Int) ≤ 1 ∧ 1 < (↑n_1 : Int)) ∧
 ∃ (x_2 : ByteArray),
 w'.cell? (Addr.mk b (o + 1) none) = some (Value.string x_2) ∧
 CallsS Tryz.prog 69 #[Value.string x_2, Value.int IntKind.i64 2147483646] w'
 fun (e : Ending) (w'_2 : World) =>
 ∃ (x_3 : Int),
 ∃ (x_4 : Int),
 e =
 Ending.returned
 (Value.tuple #[Value.int IntKind.i64 x_3, Value.int IntKind.i64 x_4]) ∧
 KeptL [n] w' w'_2 ∧
 bsp (x_4 != 0)
 (∀ (W : World),
 Loc w.heap.size
 [Blk.mk n 94 [Value.int IntKind.i64 0, Value.bool false, Value.slice none 0 0]
 (wrM 0)]
 w'_2 W →
 R
 (Ending.returned
 (Value.tuple
 #[Value.string (ByteArray.mk #[]),
 Value.agg #[Value.int IntKind.i64 0, Value.bool false, Value.slice none 0 0],
 Value.int IntKind.i64 2]))
 W)
 (nn true p fun (b o : Nat) =>
 ((0 : Int) ≤ 2 ∧ 2 < (↑n_1 : Int)) ∧
 ∃ (x_5 : ByteArray),
 w'_2.cell? (Addr.mk b (o + 2) none) = some (Value.string x_5) ∧
 nn (!x_5.toList == [(ByteArray.mk #[121]).get! 0]) p fun (b o : Nat) =>
 gimp (!x_5.toList == [(ByteArray.mk #[121]).get! 0])
 ((0 : Int) ≤ 2 ∧ 2 < (↑n_1 : Int)) ∧
 ∃ (x_6 : ByteArray),
 gimp (!x_5.toList == [(ByteArray.mk #[121]).get! 0])
 (w'_2.cell? (Addr.mk b (o + 2) none) = some (Value.string x_6)) ∧
 bsp
 (!x_5.toList == [(ByteArray.mk #[121]).get! 0] &&
 !x_6.toList == [(ByteArray.mk #[110]).get! 0])
 (∀ (W : World),
 Loc w.heap.size
 [Blk.mk n 94
 [Value.int IntKind.i64 0, Value.bool false, Value.slice none 0 0]
 (wrM 0)]
 w'_2 W →
 R
 (Ending.returned
 (Value.tuple
 #[Value.string (ByteArray.mk #[]),
 Value.agg
 #[Value.int IntKind.i64 0, Value.bool false, Value.slice none 0 0],
 Value.int IntKind.i64 3]))
 W)
 (nn true p fun (b o : Nat) =>
 ((0 : Int) ≤ 2 ∧ 2 < (↑n_1 : Int)) ∧
 ∃ (x_7 : ByteArray),
 w'_2.cell? (Addr.mk b (o + 2) none) = some (Value.string x_7) ∧
 ∀ (n_2 : Nat),
 bsp ((↑n_1 : Int) == 4)
 (nn true p fun (b o : Nat) =>
 ((0 : Int) ≤ 3 ∧ 3 < (↑n_1 : Int)) ∧
 ∃ (x_8 : ByteArray),
 (∀ (W : World),
 Loc w.heap.size
 [Blk.mk n_2 94
 [Value.int IntKind.i64 x_3,
 Value.bool (x_7.toList == [(ByteArray.mk #[110]).get! 0]),
 Value.slice none 0 0]
 (wrM 2),
 Blk.mk n 94
 [Value.int IntKind.i64 0, Value.bool false,
 Value.slice none 0 0]
 0]
 w'_2 W →
 W.cell? (Addr.mk b (o + 3) none) = some (Value.string x_8)) ∧
 ∀ (W : World),
 Loc w.heap.size
 [Blk.mk n_2 94
 [Value.int IntKind.i64 x_3,
 Value.bool (x_7.toList == [(ByteArray.mk #[110]).get! 0]),
 Value.slice none 0 0]
 (wrM 2),
 Blk.mk n 94
 [Value.int IntKind.i64 0, Value.bool false,
 Value.slice none 0 0]
 0]
 w'_2 W →
 CallsS Tryz.prog 70
 #[Value.string x_8, Value.int IntKind.i64 x_3] W
 fun (e : Ending) (w' : World) =>
 ∃ (p : Option Addr),
 ∃ (n_3 : Nat),
 ∃ (c : Nat),
 ∃ (x_9 : Bool),
 e =
 Ending.returned
 (Value.tuple #[Value.slice p n_3 c, Value.bool x_9]) ∧
 KeptL [n_2, n] W w' ∧
 bsp (!x_9)
 (∀ (W : World),
 Loc w.heap.size
 [Blk.mk n_2 94
 [Value.int IntKind.i64 x_3,
 Value.bool
 (x_7.toList == [(ByteArray.mk #[110]).get! 0]),
 Value.slice none 0 0]
 0,
 Blk.mk n 94
 [Value.int IntKind.i64 0, Value.bool false,
 Value.slice none 0 0]
 (wrM 0)]
 w' W →
 R
 (Ending.returned
 (Value.tuple
 #[Value.string (ByteArray.mk #[]),
 Value.agg
 #[Value.int IntKind.i64 0, Value.bool false,
 Value.slice none 0 0],
 Value.int IntKind.i64 3]))
 W)
 (∀ (W : World),
 Loc w.heap.size
 [Blk.mk n_2 94
 [Value.int IntKind.i64 x_3,
 Value.bool
 (x_7.toList == [(ByteArray.mk #[110]).get! 0]),
 Value.slice p n_3 c]
 (wrM 0),
 Blk.mk n 94
 [Value.int IntKind.i64 x_3,
 Value.bool
 (x_7.toList == [(ByteArray.mk #[110]).get! 0]),
 Value.slice p n_3 c]
 (wrM 0)]
 w' W →
 R
 (Ending.returned
 (Value.tuple
 #[Value.string x,
 Value.agg
 #[Value.int IntKind.i64 x_3,
 Value.bool
 (x_7.toList == [(ByteArray.mk #[110]).get! 0]),
 Value.slice p n_3 c],
 Value.int IntKind.i64 0]))
 W))
 (∀ (W : World),
 Loc w.heap.size
 [Blk.mk n_2 94
 [Value.int IntKind.i64 x_3,
 Value.bool (x_7.toList == [(ByteArray.mk #[110]).get! 0]),
 Value.slice none 0 0]
 (wrM 2),
 Blk.mk n 94
 [Value.int IntKind.i64 x_3,
 Value.bool (x_7.toList == [(ByteArray.mk #[110]).get! 0]),
 Value.slice none 0 0]
 (wrM 0)]
 w'_2 W →
 R
 (Ending.returned
 (Value.tuple
 #[Value.string x,
 Value.agg
 #[Value.int IntKind.i64 x_3,
 Value.bool (x_7.toList == [(ByteArray.mk #[110]).get! 0]),
 Value.slice none 0 0],
 Value.int IntKind.i64 0]))
 W)))))))
 (KeptL [n] w' w' ∧
 ∀ (W : World),
 Loc w.heap.size [Blk.mk n 94 [Value.int IntKind.i64 0, Value.bool false, Value.slice none 0 0] (wrM 0)] w'
 W →
 R
 (Ending.returned
 (Value.tuple
 #[Value.string (ByteArray.mk #[]),
 Value.agg #[Value.int IntKind.i64 0, Value.bool false, Value.slice none 0 0], Value.int IntKind.i64 3]))
 W)
theorem vc_acpline (s : ByteArray) (t : ByteArray) (w : World) (R : Ending → World → Prop) (h : VC_acpline s t w R) : Calls Tryz.prog 43 ([Value.string
    s,
  Value.string t] : List Value).toArray w R := by
  have e : execR2 { P := Tryz.prog, loops := [], pur := pur1, tails := [(21, 3)], joins := [], boxes := [] } Tryz.f43.results.toList R (Tryz.f43.body.getD .skip) (initF [Value.string
    s,
  Value.string
    t] (Tryz.f43.ntmps - ([Value.string s,
  Value.string t] : List Value).length)) w = VC_acpline s t w R := by kernel_rfl
  have hb : Tryz.f43.body = some (Tryz.f43.body.getD .skip) := by kernel_rfl
  exact calls_of_exec2' (P := Tryz.prog) (fn := Tryz.f43) (c := Tryz.f43.body.getD .skip) (args := [Value.string s,
  Value.string t]) (w := w) (R := R) pur1_ok Tryz.func43 hb e h

def VC_acparse (s : ByteArray) (w : World) (R : Ending → World → Prop) : Prop :=
 bsp (decide ((↑s.size : Int) > 1048576))
 (R (Ending.returned (Value.tuple #[Value.pointer none, Value.int IntKind.i64 0, Value.int IntKind.i64 5])) w)
 (CallsS Tryz.prog 19 #[] w fun (e : Ending) (w' : World) =>
 ∃ (x : Option Addr),
 e = Ending.returned (Value.pointer x) ∧
 KeptL [] w w' ∧
 ∃ (I : List Value → World → Prop),
 ∃ (m : List Value → World → Nat),
 I [Value.pointer x, Value.string (ByteArray.mk #[]), Value.string s, Value.int IntKind.i64 0] w' ∧
 ∀ (x : Option Addr) (x_1 x_2 : ByteArray) (x_3 : Int) (w' : World),
 I [Value.pointer x, Value.string x_1, Value.string x_2, Value.int IntKind.i64 x_3] w' →
 bsp (!x_2.toList == [])
 (CallsS Tryz.prog 42 #[Value.string x_2, Value.string (ByteArray.mk #[10])] w'
 fun (e : Ending) (w'_1 : World) =>
 ∃ (x_4 : ByteArray),
 ∃ (x_5 : ByteArray),
 ∃ (x_6 : Bool),
 e = Ending.returned (Value.tuple #[Value.string x_4, Value.string x_5, Value.bool x_6]) ∧
 KeptL [] w' w'_1 ∧
 bsp (!x_6)
 (R
 (Ending.returned
 (Value.tuple
 #[Value.pointer none, Value.int IntKind.i64 (IntKind.i64.wrap (x_3 + 1)),
 Value.int IntKind.i64 4]))
 w'_1)
 (CallsS Tryz.prog 43 #[Value.string x_4, Value.string x_1] w'_1 fun (e : Ending) (w'_2 : World) =>
 ∃ (x_7 : ByteArray),
 ∃ (x_8 : Int),
 ∃ (x_9 : Bool),
 ∃ (p : Option Addr),
 ∃ (n : Nat),
 ∃ (c : Nat),
 ∃ (x_10 : Int),
 e =
 Ending.returned
 (Value.tuple
 #[Value.string x_7,
 Value.agg #[Value.int IntKind.i64 x_8, Value.bool x_9, Value.slice p n c],
 Value.int IntKind.i64 x_10]) ∧
 KeptL [] w'_1 w'_2 ∧
 ∀ (n_1 : Nat),
 bsp (x_10 != 0)
 (∀ (W : World),
 Loc w.heap.size
 [Blk.mk n_1 94 [Value.int IntKind.i64 x_8, Value.bool x_9, Value.slice p n c] (wrM 2)]
 w'_2 W →
 R
 (Ending.returned
 (Value.tuple
 #[Value.pointer none, Value.int IntKind.i64 (IntKind.i64.wrap (x_3 + 1)),
 Value.int IntKind.i64 x_10]))
 W)
 (bsp (decide (IntKind.i64.wrap (x_3 + 1) > 4096))
 (∀ (W : World),
 Loc w.heap.size
 [Blk.mk n_1 94 [Value.int IntKind.i64 x_8, Value.bool x_9, Value.slice p n c] (wrM 2)]
 w'_2 W →
 R
 (Ending.returned
 (Value.tuple
 #[Value.pointer none, Value.int IntKind.i64 (IntKind.i64.wrap (x_3 + 1)),
 Value.int IntKind.i64 9]))
 W)
 (nn true x fun (b o : Nat) =>
 ∃ (x_11 : Option Nat),
 (∀ (W : World),
 Loc w.heap.size
 [Blk.mk n_1 94 [Value.int IntKind.i64 x_8, Value.bool x_9, Value.slice p n c]
 (wrM 2)]
 w'_2 W →
 W.cell? (Addr.mk b o none) = some (Value.map x_11)) ∧
 ∀ (W : World),
 Loc w.heap.size
 [Blk.mk n_1 94 [Value.int IntKind.i64 x_8, Value.bool x_9, Value.slice p n c]
 (wrM 2)]
 w'_2 W →
 ∃ (w1 : World),
 UpdP Tryz.prog 97 (Value.map x_11) (Value.string x_7)
 (Value.agg #[Value.int IntKind.i64 x_8, Value.bool x_9, Value.slice p n c]) W
 w1 ∧
 KeptL [n_1] W w1 ∧
 I
 [Value.pointer x, Value.string x_7, Value.string x_5,
 Value.int IntKind.i64 (IntKind.i64.wrap (x_3 + 1))]
 w1 ∧
 m
 [Value.pointer x, Value.string x_7, Value.string x_5,
 Value.int IntKind.i64 (IntKind.i64.wrap (x_3 + 1))]
 w1 <
 m
 [Value.pointer x, Value.string x_1, Value.string x_2,
 Value.int IntKind.i64 x_3]
 w'))))
 (R (Ending.returned (Value.tuple #[Value.pointer x, Value.int IntKind.i64 0, Value.int IntKind.i64 0])) w'))
theorem vc_acparse (s : ByteArray) (w : World) (R : Ending → World → Prop) (h : VC_acparse s w R) : Calls Tryz.prog 13 ([Value.string
    s] : List Value).toArray w R := by
  have e : execR2 { P := Tryz.prog, loops := [(6, [(2, Ck.ptr), (5, Ck.str), (6, Ck.str), (3, Ck.int IntKind.i64)])], pur := pur1, tails := [(16, 6)], joins := [], boxes := [] } Tryz.f13.results.toList R (Tryz.f13.body.getD .skip) (initF [Value.string
    s] (Tryz.f13.ntmps - ([Value.string s] : List Value).length)) w = VC_acparse s w R := by kernel_rfl
  have hb : Tryz.f13.body = some (Tryz.f13.body.getD .skip) := by kernel_rfl
  exact calls_of_exec2' (P := Tryz.prog) (fn := Tryz.f13) (c := Tryz.f13.body.getD .skip) (args := [Value.string
    s]) (w := w) (R := R) pur1_ok Tryz.func13 hb e h

def VC_acprint (b : Nat) (w : World) (R : Ending → World → Prop) : Prop :=
 ∀ (n : Nat) (W : World),
 Loc w.heap.size [Blk.mk n 109 [Value.pointer none, Value.slice none 0 0] 2] w W →
 CallsS Tryz.prog 18 #[Value.pointer (some (Addr.mk b 0 none))] W fun (e : Ending) (w' : World) =>
 ∃ (p : Option Addr),
 ∃ (n_1 : Nat),
 ∃ (c : Nat),
 e = Ending.returned (Value.slice p n_1 c) ∧
 KeptL [n] W w' ∧
 ∃ (I : List Value → World → Prop),
 ∃ (m : List Value → World → Nat),
 I [Value.int IntKind.i64 0] w' ∧
 ∀ (x : Int) (w' : World),
 I [Value.int IntKind.i64 x] w' →
 bsp (decide (x < (↑n_1 : Int)))
 (nn true p fun (b_1 o : Nat) =>
 (0 ≤ x ∧ x < (↑n_1 : Int)) ∧
 ∃ (x_1 : ByteArray),
 w'.cell? (Addr.mk b_1 (o + x.toNat) none) = some (Value.string x_1) ∧
 ∃ (x_2 : Option Nat),
 w'.cell? (Addr.mk b 0 none) = some (Value.map x_2) ∧
 ∃ (x_3 : Int),
 ∃ (x_4 : Bool),
 ∃ (p : Option Addr),
 ∃ (n_2 : Nat),
 ∃ (c : Nat),
 LookP Tryz.prog 97 (Value.map x_2) (Value.string x_1) false
 (Value.agg #[Value.int IntKind.i64 x_3, Value.bool x_4, Value.slice p n_2 c]) w' ∧
 ∀ (n_3 : Nat) (W : World),
 Loc w.heap.size
 [Blk.mk n_3 94 [Value.int IntKind.i64 x_3, Value.bool x_4, Value.slice p n_2 c] (wrM 2)] w'
 W →
 CallsS Tryz.prog 46 #[Value.int IntKind.i64 x_3] W fun (e : Ending) (w'_1 : World) =>
 ∃ (x_5 : ByteArray),
 e = Ending.returned (Value.string x_5) ∧
 KeptL [n_3] W w'_1 ∧
 ∀ (n_4 : Nat),
 bsp x_4
 (((0 : Int) ≤ 2 ∧ 2 < (↑3 : Int)) ∧
 ∀ (W : World),
 Loc w.heap.size
 [Blk.mk n_4 9
 [Value.string x_1, Value.string x_5, Value.string (ByteArray.mk #[121])] 2,
 Blk.mk n_3 94 [Value.int IntKind.i64 x_3, Value.bool x_4, Value.slice p n_2 c] 0]
 w'_1 W →
 ((∃ (u : Value), W.cell? (Addr.mk n_4 2 none) = some u) ∧
 W.frozen? (Addr.mk n_4 2 none) = false) ∧
 ∀ (w1 : World),
 PutB W n_4 2 [Value.string (ByteArray.mk #[110])] w1 →
 KeptL [n_4, n_3] W w1 ∧
 bsp (decide ((↑n_2 : Int) > 0))
 (CallsS Tryz.prog 47 #[Value.slice p n_2 c] w1
 fun (e : Ending) (w'_2 : World) =>
 ∃ (x_6 : ByteArray),
 e = Ending.returned (Value.string x_6) ∧
 KeptL [n_4, n_3] w1 w'_2 ∧
 ∀ (n_5 : Nat) (W : World),
 Loc w.heap.size
 [Blk.mk n_5 9 [Value.string x_6] 2,
 Blk.mk n_4 9
 [Value.string x_1, Value.string x_5,
 Value.string (ByteArray.mk #[121])]
 0,
 Blk.mk n_3 94
 [Value.int IntKind.i64 x_3, Value.bool x_4, Value.slice p n_2 c] 0]
 w'_2 W →
 ∃ (base : Nat),
 ∃ (xs : List Value),
 W.ownsRow base 9 1 (Value.slice (some (Addr.mk n_4 0 none)) 3 3) 3
 xs ∧
 (4 : Nat) ≤ 9223372036854775807 ∧
 (64 : Nat) ≤ 140737488355328 ∧
 base ≤ W.heap.size ∧
 ∀ (p' : Option Addr) (c' : Nat) (w'_3 : World),
 w'_3.ownsRow base 9 1 (Value.slice p' 4 c') 4
 (xs ++ [Value.string x_6]) →
 W.grownBy w'_3
 (Value.slice (some (Addr.mk n_4 0 none)) 3 3).ownBlock →
 AppL W (some (Addr.mk n_4 0 none)) 3 3 1 p' c' →
 KeptL [n_4, n_3] W w'_3 ∧
 CallsS Tryz.prog 49
 #[Value.slice p' 4 c', Value.string (ByteArray.mk #[32])]
 w'_3 fun (e : Ending) (w'_4 : World) =>
 ∃ (x_7 : ByteArray),
 e = Ending.returned (Value.string x_7) ∧
 KeptL [n_4, n_3] w'_3 w'_4 ∧
 CallsS Tryz.prog 48
 #[Value.pointer (some (Addr.mk n 0 none)),
 Value.string x_7]
 w'_4 fun (e : Ending) (w'_5 : World) =>
 ∃ (x_8 : Int),
 ∃ (x_9 : Value),
 e =
 Ending.returned
 (Value.tuple #[Value.int IntKind.i64 x_8, x_9]) ∧
 KeptL [n_4, n_3] w'_4 w'_5 ∧
 CallsS Tryz.prog 48
 #[Value.pointer (some (Addr.mk n 0 none)),
 Value.string (ByteArray.mk #[10])]
 w'_5 fun (e : Ending) (w'_6 : World) =>
 ∃ (x_10 : Int),
 ∃ (x_11 : Value),
 e =
 Ending.returned
 (Value.tuple
 #[Value.int IntKind.i64 x_10, x_11]) ∧
 KeptL [n_4, n_3] w'_5 w'_6 ∧
 I
 [Value.int IntKind.i64
 (IntKind.i64.wrap (x + 1))]
 w'_6 ∧
 m
 [Value.int IntKind.i64
 (IntKind.i64.wrap (x + 1))]
 w'_6 <
 m [Value.int IntKind.i64 x] w')
 (CallsS Tryz.prog 49
 #[Value.slice (some (Addr.mk n_4 0 none)) 3 3,
 Value.string (ByteArray.mk #[32])]
 w1 fun (e : Ending) (w'_2 : World) =>
 ∃ (x_6 : ByteArray),
 e = Ending.returned (Value.string x_6) ∧
 KeptL [n_4, n_3] w1 w'_2 ∧
 CallsS Tryz.prog 48
 #[Value.pointer (some (Addr.mk n 0 none)), Value.string x_6] w'_2
 fun (e : Ending) (w'_3 : World) =>
 ∃ (x_7 : Int),
 ∃ (x_8 : Value),
 e = Ending.returned (Value.tuple #[Value.int IntKind.i64 x_7, x_8]) ∧
 KeptL [n_4, n_3] w'_2 w'_3 ∧
 CallsS Tryz.prog 48
 #[Value.pointer (some (Addr.mk n 0 none)),
 Value.string (ByteArray.mk #[10])]
 w'_3 fun (e : Ending) (w'_4 : World) =>
 ∃ (x_9 : Int),
 ∃ (x_10 : Value),
 e =
 Ending.returned
 (Value.tuple #[Value.int IntKind.i64 x_9, x_10]) ∧
 KeptL [n_4, n_3] w'_3 w'_4 ∧
 I [Value.int IntKind.i64 (IntKind.i64.wrap (x + 1))] w'_4 ∧
 m [Value.int IntKind.i64 (IntKind.i64.wrap (x + 1))] w'_4 <
 m [Value.int IntKind.i64 x] w'))
 (bsp (decide ((↑n_2 : Int) > 0))
 (∀ (W : World),
 Loc w.heap.size
 [Blk.mk n_4 9
 [Value.string x_1, Value.string x_5, Value.string (ByteArray.mk #[121])] 2,
 Blk.mk n_3 94 [Value.int IntKind.i64 x_3, Value.bool x_4, Value.slice p n_2 c] 0]
 w'_1 W →
 CallsS Tryz.prog 47 #[Value.slice p n_2 c] W fun (e : Ending) (w'_2 : World) =>
 ∃ (x_6 : ByteArray),
 e = Ending.returned (Value.string x_6) ∧
 KeptL [n_4, n_3] W w'_2 ∧
 ∀ (n_5 : Nat) (W : World),
 Loc w.heap.size
 [Blk.mk n_5 9 [Value.string x_6] 2,
 Blk.mk n_4 9
 [Value.string x_1, Value.string x_5, Value.string (ByteArray.mk #[121])]
 0,
 Blk.mk n_3 94
 [Value.int IntKind.i64 x_3, Value.bool x_4, Value.slice p n_2 c] 0]
 w'_2 W →
 ∃ (base : Nat),
 ∃ (xs : List Value),
 W.ownsRow base 9 1 (Value.slice (some (Addr.mk n_4 0 none)) 3 3) 3 xs ∧
 (4 : Nat) ≤ 9223372036854775807 ∧
 (64 : Nat) ≤ 140737488355328 ∧
 base ≤ W.heap.size ∧
 ∀ (p' : Option Addr) (c' : Nat) (w'_3 : World),
 w'_3.ownsRow base 9 1 (Value.slice p' 4 c') 4
 (xs ++ [Value.string x_6]) →
 W.grownBy w'_3
 (Value.slice (some (Addr.mk n_4 0 none)) 3 3).ownBlock →
 AppL W (some (Addr.mk n_4 0 none)) 3 3 1 p' c' →
 KeptL [n_4, n_3] W w'_3 ∧
 CallsS Tryz.prog 49
 #[Value.slice p' 4 c', Value.string (ByteArray.mk #[32])] w'_3
 fun (e : Ending) (w'_4 : World) =>
 ∃ (x_7 : ByteArray),
 e = Ending.returned (Value.string x_7) ∧
 KeptL [n_4, n_3] w'_3 w'_4 ∧
 CallsS Tryz.prog 48
 #[Value.pointer (some (Addr.mk n 0 none)), Value.string x_7]
 w'_4 fun (e : Ending) (w'_5 : World) =>
 ∃ (x_8 : Int),
 ∃ (x_9 : Value),
 e =
 Ending.returned
 (Value.tuple #[Value.int IntKind.i64 x_8, x_9]) ∧
 KeptL [n_4, n_3] w'_4 w'_5 ∧
 CallsS Tryz.prog 48
 #[Value.pointer (some (Addr.mk n 0 none)),
 Value.string (ByteArray.mk #[10])]
 w'_5 fun (e : Ending) (w'_6 : World) =>
 ∃ (x_10 : Int),
 ∃ (x_11 : Value),
 e =
 Ending.returned
 (Value.tuple #[Value.int IntKind.i64 x_10, x_11]) ∧
 KeptL [n_4, n_3] w'_5 w'_6 ∧
 I [Value.int IntKind.i64 (IntKind.i64.wrap (x + 1))]
 w'_6 ∧
 m
 [Value.int IntKind.i64
 (IntKind.i64.wrap (x + 1))]
 w'_6 <
 m [Value.int IntKind.i64 x] w')
 (∀ (W : World),
 Loc w.heap.size
 [Blk.mk n_4 9
 [Value.string x_1, Value.string x_5, Value.string (ByteArray.mk #[121])] 2,
 Blk.mk n_3 94 [Value.int IntKind.i64 x_3, Value.bool x_4, Value.slice p n_2 c] 0]
 w'_1 W →
 CallsS Tryz.prog 49
 #[Value.slice (some (Addr.mk n_4 0 none)) 3 3, Value.string (ByteArray.mk #[32])]
 W fun (e : Ending) (w'_2 : World) =>
 ∃ (x_6 : ByteArray),
 e = Ending.returned (Value.string x_6) ∧
 KeptL [n_4, n_3] W w'_2 ∧
 CallsS Tryz.prog 48
 #[Value.pointer (some (Addr.mk n 0 none)), Value.string x_6] w'_2
 fun (e : Ending) (w'_3 : World) =>
 ∃ (x_7 : Int),
 ∃ (x_8 : Value),
 e = Ending.returned (Value.tuple #[Value.int IntKind.i64 x_7, x_8]) ∧
 KeptL [n_4, n_3] w'_2 w'_3 ∧
 CallsS Tryz.prog 48
 #[Value.pointer (some (Addr.mk n 0 none)),
 Value.string (ByteArray.mk #[10])]
 w'_3 fun (e : Ending) (w'_4 : World) =>
 ∃ (x_9 : Int),
 ∃ (x_10 : Value),
 e = Ending.returned (Value.tuple #[Value.int IntKind.i64 x_9, x_10]) ∧
 KeptL [n_4, n_3] w'_3 w'_4 ∧
 I [Value.int IntKind.i64 (IntKind.i64.wrap (x + 1))] w'_4 ∧
 m [Value.int IntKind.i64 (IntKind.i64.wrap (x + 1))] w'_4 <
 m [Value.int IntKind.i64 x] w')))
 (CallsS Tryz.prog 50 #[Value.pointer (some (Addr.mk n 0 none))] w' fun (e : Ending) (w'_1 : World) =>
 ∃ (x : ByteArray),
 e = Ending.returned (Value.string x) ∧ KeptL [] w' w'_1 ∧ R (Ending.returned (Value.string x)) w'_1)
theorem vc_acprint (b : Nat) (w : World) (R : Ending → World → Prop) (h : VC_acprint b w R) : Calls Tryz.prog 17 ([Value.pointer
    (some { block := b, off := 0 })] : List Value).toArray w R := by
  have e : execR2 { P := Tryz.prog, loops := [(3, [(11, Ck.int IntKind.i64)])], pur := pur1, tails := [], joins := [], boxes := [] } Tryz.f17.results.toList R (Tryz.f17.body.getD .skip) (initF [Value.pointer
    (some
      { block := b,
        off :=
          0 })] (Tryz.f17.ntmps - ([Value.pointer
    (some { block := b, off := 0 })] : List Value).length)) w = VC_acprint b w R := by kernel_rfl
  have hb : Tryz.f17.body = some (Tryz.f17.body.getD .skip) := by kernel_rfl
  exact calls_of_exec2' (P := Tryz.prog) (fn := Tryz.f17) (c := Tryz.f17.body.getD .skip) (args := [Value.pointer
    (some { block := b, off := 0 })]) (w := w) (R := R) pur1_ok Tryz.func17 hb e h

def VC_acxintervals (s : ByteArray) (zh : Int) (w : World) (R : Ending → World → Prop) : Prop :=
 CallsS Tryz.prog 71 #[Value.string s, Value.int IntKind.u8 44] w fun (e : Ending) (w' : World) =>
 ∃ (p : Option Addr),
 ∃ (n : Nat),
 ∃ (c : Nat),
 e = Ending.returned (Value.slice p n c) ∧
 KeptL [] w w' ∧
 ∃ (I : List Value → World → Prop),
 ∃ (m : List Value → World → Nat),
 I [Value.int IntKind.i64 0, Value.slice none 0 0, Value.int IntKind.i64 (-1)] w' ∧
 ∀ (x : Int) (p_1 : Option Addr) (n_1 c : Nat) (x_1 : Int) (w' : World),
 I [Value.int IntKind.i64 x, Value.slice p_1 n_1 c, Value.int IntKind.i64 x_1] w' →
 bsp (decide (x < (↑n : Int)))
 (nn true p fun (b o : Nat) =>
 (0 ≤ x ∧ x < (↑n : Int)) ∧
 ∃ (x_2 : ByteArray),
 w'.cell? (Addr.mk b (o + x.toNat) none) = some (Value.string x_2) ∧
 CallsS Tryz.prog 71 #[Value.string x_2, Value.int IntKind.u8 45] w' fun (e : Ending) (w'_1 : World) =>
 ∃ (p : Option Addr),
 ∃ (n : Nat),
 ∃ (c_1 : Nat),
 e = Ending.returned (Value.slice p n c_1) ∧
 KeptL [] w' w'_1 ∧
 bsp (decide ((↑n : Int) > 2))
 (R (Ending.returned (Value.tuple #[Value.slice none 0 0, Value.bool false])) w'_1)
 (nn true p fun (b o : Nat) =>
 ((0 : Int) ≤ 0 ∧ 0 < (↑n : Int)) ∧
 ∃ (x_3 : ByteArray),
 w'_1.cell? (Addr.mk b o none) = some (Value.string x_3) ∧
 CallsS Tryz.prog 74 #[Value.string x_3, Value.int IntKind.i64 zh] w'_1
 fun (e : Ending) (w'_2 : World) =>
 ∃ (x_4 : Int),
 e = Ending.returned (Value.int IntKind.i64 x_4) ∧
 KeptL [] w'_1 w'_2 ∧
 bsp ((↑n : Int) == 2)
 (nn true p fun (b o : Nat) =>
 ((0 : Int) ≤ 1 ∧ 1 < (↑n : Int)) ∧
 ∃ (x_5 : ByteArray),
 w'_2.cell? (Addr.mk b (o + 1) none) = some (Value.string x_5) ∧
 CallsS Tryz.prog 74 #[Value.string x_5, Value.int IntKind.i64 zh] w'_2
 fun (e : Ending) (w'_3 : World) =>
 ∃ (x_6 : Int),
 e = Ending.returned (Value.int IntKind.i64 x_6) ∧
 KeptL [] w'_2 w'_3 ∧
 bsp (decide (x_6 ≤ x_4))
 (R (Ending.returned (Value.tuple #[Value.slice none 0 0, Value.bool false]))
 w'_3)
 (bsp
 (decide (x_4 < 1) || decide (x_6 < 1) ||
 decide (x_4 ≤ IntKind.i64.wrap (x_1 + 1)) && decide (x > 0))
 (R (Ending.returned (Value.tuple #[Value.slice none 0 0, Value.bool false]))
 w'_3)
 (∀ (n : Nat) (W : World),
 Loc w.heap.size
 [Blk.mk n 38 [Value.int IntKind.i64 x_4, Value.int IntKind.i64 x_6] 2] w'_3
 W →
 ∃ (base : Nat),
 ∃ (xs : List Value),
 W.ownsRow base 38 2 (Value.slice p_1 n_1 c) n_1 xs ∧
 n_1 + 1 ≤ 9223372036854775807 ∧
 (n_1 + 1) * 16 ≤ 140737488355328 ∧
 base ≤ W.heap.size ∧
 ∀ (p' : Option Addr) (c' : Nat) (w'_4 : World),
 w'_4.ownsRow base 38 2 (Value.slice p' (n_1 + 1) c') (n_1 + 1)
 (xs ++ [Value.int IntKind.i64 x_4, Value.int IntKind.i64 x_6]) →
 W.grownBy w'_4 (Value.slice p_1 n_1 c).ownBlock →
 AppL W p_1 n_1 c 1 p' c' →
 KeptL [] W w'_4 ∧
 I
 [Value.int IntKind.i64 (IntKind.i64.wrap (x + 1)),
 Value.slice p' (n_1 + 1) c', Value.int IntKind.i64 x_6]
 w'_4 ∧
 m
 [Value.int IntKind.i64 (IntKind.i64.wrap (x + 1)),
 Value.slice p' (n_1 + 1) c', Value.int IntKind.i64 x_6]
 w'_4 <
 m
 [Value.int IntKind.i64 x, Value.slice p_1 n_1 c,
 Value.int IntKind.i64 x_1]
 w')))
 (bsp
 (decide (x_4 < 1) || decide (x_4 < 1) ||
 decide (x_4 ≤ IntKind.i64.wrap (x_1 + 1)) && decide (x > 0))
 (R (Ending.returned (Value.tuple #[Value.slice none 0 0, Value.bool false])) w'_2)
 (∀ (n : Nat) (W : World),
 Loc w.heap.size [Blk.mk n 38 [Value.int IntKind.i64 x_4, Value.int IntKind.i64 x_4] 2]
 w'_2 W →
 ∃ (base : Nat),
 ∃ (xs : List Value),
 W.ownsRow base 38 2 (Value.slice p_1 n_1 c) n_1 xs ∧
 n_1 + 1 ≤ 9223372036854775807 ∧
 (n_1 + 1) * 16 ≤ 140737488355328 ∧
 base ≤ W.heap.size ∧
 ∀ (p' : Option Addr) (c' : Nat) (w'_3 : World),
 w'_3.ownsRow base 38 2 (Value.slice p' (n_1 + 1) c') (n_1 + 1)
 (xs ++ [Value.int IntKind.i64 x_4, Value.int IntKind.i64 x_4]) →
 W.grownBy w'_3 (Value.slice p_1 n_1 c).ownBlock →
 AppL W p_1 n_1 c 1 p' c' →
 KeptL [] W w'_3 ∧
 I
 [Value.int IntKind.i64 (IntKind.i64.wrap (x + 1)),
 Value.slice p' (n_1 + 1) c', Value.int IntKind.i64 x_4]
 w'_3 ∧
 m
 [Value.int IntKind.i64 (IntKind.i64.wrap (x + 1)),
 Value.slice p' (n_1 + 1) c', Value.int IntKind.i64 x_4]
 w'_3 <
 m
 [Value.int IntKind.i64 x, Value.slice p_1 n_1 c,
 Value.int IntKind.i64 x_1]
 w'))))
 (R (Ending.returned (Value.tuple #[Value.slice p_1 n_1 c, Value.bool true])) w')
theorem vc_acxintervals (s : ByteArray) (zh : Int) (w : World) (R : Ending → World → Prop) (h : VC_acxintervals s zh w R) : Calls Tryz.prog 75 ([Value.string
    s,
  Value.int IntKind.i64 zh] : List Value).toArray w R := by
  have e : execR2 { P := Tryz.prog, loops := [(5, [(9, Ck.int IntKind.i64), (6, Ck.slice), (7, Ck.int IntKind.i64)])], pur := pur1, tails := [], joins := [], boxes := [] } Tryz.f75.results.toList R (Tryz.f75.body.getD .skip) (initF [Value.string
    s,
  Value.int IntKind.i64
    zh] (Tryz.f75.ntmps - ([Value.string s,
  Value.int IntKind.i64 zh] : List Value).length)) w = VC_acxintervals s zh w R := by kernel_rfl
  have hb : Tryz.f75.body = some (Tryz.f75.body.getD .skip) := by kernel_rfl
  exact calls_of_exec2' (P := Tryz.prog) (fn := Tryz.f75) (c := Tryz.f75.body.getD .skip) (args := [Value.string s,
  Value.int IntKind.i64 zh]) (w := w) (R := R) pur1_ok Tryz.func75 hb e h

def VC_acxline (s : ByteArray) (t : ByteArray) (f : Bool) (w : World) (R : Ending → World → Prop) : Prop :=
 ∀ (n : Nat) (W : World),
 Loc w.heap.size
 [Blk.mk n 36 [Value.string (ByteArray.mk #[]), Value.int IntKind.i64 0, Value.bool false, Value.slice none 0 0] 2] w
 W →
 CallsS Tryz.prog 71 #[Value.string s, Value.int IntKind.u8 32] W fun (e : Ending) (w' : World) =>
 ∃ (p : Option Addr),
 ∃ (n_1 : Nat),
 ∃ (c : Nat),
 e = Ending.returned (Value.slice p n_1 c) ∧
 KeptL [n] W w' ∧
 bsp (decide ((↑n_1 : Int) < 3) || decide ((↑n_1 : Int) > 4))
 (∀ (W : World),
 Loc w.heap.size
 [Blk.mk n 36
 [Value.string (ByteArray.mk #[]), Value.int IntKind.i64 0, Value.bool false, Value.slice none 0 0]
 (wrM 0)]
 w' W →
 R
 (Ending.returned
 (Value.tuple
 #[Value.agg
 #[Value.string (ByteArray.mk #[]), Value.int IntKind.i64 0, Value.bool false, Value.slice none 0 0],
 Value.int IntKind.i64 3]))
 W)
 (∃ (I : List Value → World → Prop),
 ∃ (m : List Value → World → Nat),
 I [Value.int IntKind.i64 0] w' ∧
 ∀ (x : Int) (w' : World),
 I [Value.int IntKind.i64 x] w' →
 bsp (decide (x < (↑n_1 : Int)))
 (nn true p fun (b o : Nat) =>
 (0 ≤ x ∧ x < (↑n_1 : Int)) ∧
 ∃ (x_1 : ByteArray),
 w'.cell? (Addr.mk b (o + x.toNat) none) = some (Value.string x_1) ∧
 bsp (x_1.toList == [])
 (WrL w' n 0 4 ∧
 ∀ (w1 : World),
 PutB w' n 0
 [Value.string (ByteArray.mk #[]), Value.int IntKind.i64 0, Value.bool false,
 Value.slice none 0 0]
 w1 →
 KeptL [] w' w1 ∧
 ∃ (x : ByteArray),
 ∃ (x_2 : Int),
 ∃ (x_3 : Bool),
 ∃ (p : Option Addr),
 ∃ (n_2 : Nat),
 ∃ (c : Nat),
 AtL w1 n 0
 [Value.string x, Value.int IntKind.i64 x_2, Value.bool x_3, Value.slice p n_2 c] ∧
 R
 (Ending.returned
 (Value.tuple
 #[Value.agg
 #[Value.string x, Value.int IntKind.i64 x_2, Value.bool x_3, Value.slice p n_2 c],
 Value.int IntKind.i64 3]))
 w1)
 (I [Value.int IntKind.i64 (IntKind.i64.wrap (x + 1))] w' ∧
 m [Value.int IntKind.i64 (IntKind.i64.wrap (x + 1))] w' < m [Value.int IntKind.i64 x] w'))
 (nn true p fun (b o : Nat) =>
 ((0 : Int) ≤ 0 ∧ 0 < (↑n_1 : Int)) ∧
 ∃ (x : ByteArray),
 w'.cell? (Addr.mk b o none) = some (Value.string x) ∧
 CallsS Tryz.prog 72 #[Value.string x] w' fun (e : Ending) (w'_1 : World) =>
 ∃ (x : Int),
 e = Ending.returned (Value.int IntKind.i64 x) ∧
 KeptL [] w' w'_1 ∧
 bsp (x != 0)
 (WrL w'_1 n 0 4 ∧
 ∀ (w1 : World),
 PutB w'_1 n 0
 [Value.string (ByteArray.mk #[]), Value.int IntKind.i64 0, Value.bool false,
 Value.slice none 0 0]
 w1 →
 KeptL [] w'_1 w1 ∧
 ∃ (x_1 : ByteArray),
 ∃ (x_2 : Int),
 ∃ (x_3 : Bool),
 ∃ (p : Option Addr),
 ∃ (n_2 : Nat),
 ∃ (c : Nat),
 AtL w1 n 0
 [Value.string x_1, Value.int IntKind.i64 x_2, Value.bool x_3, Value.slice p n_2 c] ∧
 R
 (Ending.returned
 (Value.tuple
 #[Value.agg
 #[Value.string x_1, Value.int IntKind.i64 x_2, Value.bool x_3,
 Value.slice p n_2 c],
 Value.int IntKind.i64 x]))
 w1)
 (nn (!f) p fun (b o : Nat) =>
 gimp (!f) ((0 : Int) ≤ 0 ∧ 0 < (↑n_1 : Int)) ∧
 ∃ (x : ByteArray),
 gimp (!f) (w'_1.cell? (Addr.mk b o none) = some (Value.string x)) ∧
 bsp (!f)
 (CallsS Tryz.prog 73 #[Value.string t, Value.string x] w'_1
 fun (e : Ending) (w' : World) =>
 ∃ (x : Int),
 e = Ending.returned (Value.int IntKind.i64 x) ∧
 KeptL [] w'_1 w' ∧
 bsp (true && decide (x ≥ 0))
 (WrL w' n 0 4 ∧
 ∀ (w1 : World),
 PutB w' n 0
 [Value.string (ByteArray.mk #[]), Value.int IntKind.i64 0, Value.bool false,
 Value.slice none 0 0]
 w1 →
 KeptL [] w' w1 ∧
 ∃ (x : ByteArray),
 ∃ (x_1 : Int),
 ∃ (x_2 : Bool),
 ∃ (p : Option Addr),
 ∃ (n_2 : Nat),
 ∃ (c : Nat),
 AtL w1 n 0
 [Value.string x, Value.int IntKind.i64 x_1, Value.bool x_2,
 Value.slice p n_2 c] ∧
 R
 (Ending.returned
 (Value.tuple
 #[Value.agg
 #[Value.string x, Value.int IntKind.i64 x_1, Value.bool x_2,
 Value.slice p n_2 c],
 Value.int IntKind.i64 30]))
 w1)
 (nn true p fun (b o : Nat) =>
 ((0 : Int) ≤ 1 ∧ 1 < (↑n_1 : Int)) ∧
 ∃ (x : ByteArray),
 w'.cell? (Addr.mk b (o + 1) none) = some (Value.string x) ∧
 CallsS Tryz.prog 74 #[Value.string x, Value.int IntKind.i64 2147483646] w'
 fun (e : Ending) (w'_2 : World) =>
 ∃ (x : Int),
 e = Ending.returned (Value.int IntKind.i64 x) ∧
 KeptL [] w' w'_2 ∧
 bsp (decide (x < 0))
 (WrL w'_2 n 0 4 ∧
 ∀ (w1 : World),
 PutB w'_2 n 0
 [Value.string (ByteArray.mk #[]), Value.int IntKind.i64 0,
 Value.bool false, Value.slice none 0 0]
 w1 →
 KeptL [] w'_2 w1 ∧
 ∃ (x : ByteArray),
 ∃ (x_1 : Int),
 ∃ (x_2 : Bool),
 ∃ (p : Option Addr),
 ∃ (n_2 : Nat),
 ∃ (c : Nat),
 AtL w1 n 0
 [Value.string x, Value.int IntKind.i64 x_1, Value.bool x_2,
 Value.slice p n_2 c] ∧
 R
 (Ending.returned
 (Value.tuple
 #[Value.agg
 #[Value.string x, Value.int IntKind.i64 x_1, Value.bool x_2,
 Value.slice p n_2 c],
 Value.int IntKind.i64 2]))
 w1)
 (nn true p fun (b o : Nat) =>
 ((0 : Int) ≤ 2 ∧ 2 < (↑n_1 : Int)) ∧
 ∃ (x_1 : ByteArray),
 w'_2.cell? (Addr.mk b (o + 2) none) = some (Value.string x_1) ∧
 nn (!x_1.toList == [(ByteArray.mk #[121]).get! 0]) p fun (b o : Nat) =>
 gimp (!x_1.toList == [(ByteArray.mk #[121]).get! 0])
 ((0 : Int) ≤ 2 ∧ 2 < (↑n_1 : Int)) ∧
 ∃ (x_2 : ByteArray),
 gimp (!x_1.toList == [(ByteArray.mk #[121]).get! 0])
 (w'_2.cell? (Addr.mk b (o + 2) none) = some (Value.string x_2)) ∧
 bsp
 (!x_1.toList == [(ByteArray.mk #[121]).get! 0] &&
 !x_2.toList == [(ByteArray.mk #[110]).get! 0])
 (WrL w'_2 n 0 4 ∧
 ∀ (w1 : World),
 PutB w'_2 n 0
 [Value.string (ByteArray.mk #[]), Value.int IntKind.i64 0,
 Value.bool false, Value.slice none 0 0]
 w1 →
 KeptL [] w'_2 w1 ∧
 ∃ (x : ByteArray),
 ∃ (x_3 : Int),
 ∃ (x_4 : Bool),
 ∃ (p : Option Addr),
 ∃ (n_2 : Nat),
 ∃ (c : Nat),
 AtL w1 n 0
 [Value.string x, Value.int IntKind.i64 x_3,
 Value.bool x_4, Value.slice p n_2 c] ∧
 R
 (Ending.returned
 (Value.tuple
 #[Value.agg
 #[Value.string x, Value.int IntKind.i64 x_3,
 Value.bool x_4, Value.slice p n_2 c],
 Value.int IntKind.i64 3]))
 w1)
 (∀ (W : World),
 Loc w.heap.size [] w'_2 W →
 ∃ (S : World → Prop),
 S W ∧
 nn true p fun (b o : Nat) =>
 ((0 : Int) ≤ 0 ∧ 0 < (↑n_1 : Int)) ∧
 ∃ (x_3 : ByteArray),
 (∀ (w' : World),
 S w' →
 w'.cell? (Addr.mk b o none) = some (Value.string x_3)) ∧
 nn true p fun (b o : Nat) =>
 ((0 : Int) ≤ 2 ∧ 2 < (↑n_1 : Int)) ∧
 ∃ (x_4 : ByteArray),
 (∀ (w' : World),
 S w' →
 w'.cell? (Addr.mk b (o + 2) none) =
 some (Value.string x_4)) ∧
 ∀ (n_2 : Nat) (w1 : World),
 NewB W
 (Obj.cells
 #[Value.string (ByteArray.mk #[]),
 Value.int IntKind.i64 0, Value.bool false,
 Value.slice none 0 0]
 36)
 n_2 w1 →
 S w1 ∧
 WrL w1 n_2 0 4 ∧
 ∀ (w1_1 : World),
 PutB w1 n_2 0
 [Value.string x_3, Value.int IntKind.i64 x,
 Value.bool
 (x_4.toList == [(ByteArray.mk #[110]).get! 0]),
 Value.slice none 0 0]
 w1_1 →
 KeptL [] W w1_1 ∧
 bsp ((↑n_1 : Int) == 4)
 (nn true p fun (b o : Nat) =>
 ((0 : Int) ≤ 3 ∧ 3 < (↑n_1 : Int)) ∧
 ∃ (x_5 : ByteArray),
 w1_1.cell? (Addr.mk b (o + 3) none) =
 some (Value.string x_5) ∧
 CallsS Tryz.prog 75
 #[Value.string x_5,
 Value.int IntKind.i64 x]
 w1_1 fun (e : Ending) (w' : World) =>
 ∃ (p : Option Addr),
 ∃ (n_3 : Nat),
 ∃ (c : Nat),
 ∃ (x : Bool),
 e =
 Ending.returned
 (Value.tuple
 #[Value.slice p n_3 c,
 Value.bool x]) ∧
 KeptL [] w1_1 w' ∧
 bsp (!x)
 (WrL w' n 0 4 ∧
 ∀ (w1 : World),
 PutB w' n 0
 [Value.string
 (ByteArray.mk #[]),
 Value.int IntKind.i64 0,
 Value.bool false,
 Value.slice none 0 0]
 w1 →
 KeptL [] w' w1 ∧
 ∃ (x : ByteArray),
 ∃ (x_6 : Int),
 ∃ (x_7 : Bool),
 ∃ (p : Option Addr),
 ∃ (n_4 : Nat),
 ∃ (c : Nat),
 AtL w1 n 0
 [Value.string x,
 Value.int IntKind.i64
 x_6,
 Value.bool x_7,
 Value.slice p n_4 c] ∧
 R
 (Ending.returned
 (Value.tuple
 #[Value.agg
 #[Value.string x,
 Value.int
 IntKind.i64 x_6,
 Value.bool x_7,
 Value.slice p n_4
 c],
 Value.int IntKind.i64
 3]))
 w1)
 (((∃ (u : Value),
 w'.cell?
 (Addr.mk n_2 (0 + 3) none) =
 some u) ∧
 w'.frozen?
 (Addr.mk n_2 (0 + 3) none) =
 false) ∧
 ∀ (w1 : World),
 PutB w' n_2 (0 + 3)
 [Value.slice p n_3 c] w1 →
 KeptL [] w' w1 ∧
 ∃ (x : ByteArray),
 ∃ (x_6 : Int),
 ∃ (x_7 : Bool),
 ∃ (p : Option Addr),
 ∃ (n_4 : Nat),
 ∃ (c : Nat),
 AtL w1 n_2 0
 [Value.string x,
 Value.int IntKind.i64
 x_6,
 Value.bool x_7,
 Value.slice p n_4 c] ∧
 WrL w1 n 0 4 ∧
 ∀ (w1_2 : World),
 PutB w1 n 0
 [Value.string x,
 Value.int
 IntKind.i64 x_6,
 Value.bool x_7,
 Value.slice p n_4 c]
 w1_2 →
 KeptL [] w1 w1_2 ∧
 ∃ (x : ByteArray),
 ∃ (x_8 : Int),
 ∃ (x_9 : Bool),
 ∃ (p :
 Option Addr),
 ∃ (n_5 : Nat),
 ∃ (c : Nat),
 AtL w1_2 n 0
 [Value.string
 x,
 Value.int
 IntKind.i64
 x_8,
 Value.bool
 x_9,
 Value.slice
 p n_5 c] ∧
 R
 (Ending.returned
 (Value.tuple
 #[Value.agg
 #[Value.string
 x,
 Value.int
 IntKind.i64
 x_8,
 Value.bool
 x_9,
 Value.slice
 p n_5
 c],
 Value.int
 IntKind.i64
 0]))
 w1_2))
 (∃ (x : ByteArray),
 ∃ (x_5 : Int),
 ∃ (x_6 : Bool),
 ∃ (p : Option Addr),
 ∃ (n_3 : Nat),
 ∃ (c : Nat),
 AtL w1_1 n_2 0
 [Value.string x,
 Value.int IntKind.i64 x_5,
 Value.bool x_6, Value.slice p n_3 c] ∧
 WrL w1_1 n 0 4 ∧
 ∀ (w1 : World),
 PutB w1_1 n 0
 [Value.string x,
 Value.int IntKind.i64 x_5,
 Value.bool x_6, Value.slice p n_3 c]
 w1 →
 KeptL [] w1_1 w1 ∧
 ∃ (x : ByteArray),
 ∃ (x_7 : Int),
 ∃ (x_8 : Bool),
 ∃ (p : Option Addr),
 ∃ (n_4 : Nat),
 ∃ (c : Nat),
 AtL w1 n 0
 [Value.string x,
 Value.int IntKind.i64 x_7,
 Value.bool x_8,
 Value.slice p n_4 c] ∧
 R
 (Ending.returned
 (Value.tuple
 #[Value.agg
 #[Value.string x,
 Value.int IntKind.i64
 x_7,
 Value.bool x_8,
 Value.slice p n_4 c],
 Value.int IntKind.i64 0]))
 w1)))))
 (KeptL [] w'_1 w'_1 ∧
 nn true p fun (b o : Nat) =>
 ((0 : Int) ≤ 1 ∧ 1 < (↑n_1 : Int)) ∧
 ∃ (x : ByteArray),
 w'_1.cell? (Addr.mk b (o + 1) none) = some (Value.string x) ∧
 CallsS Tryz.prog 74 #[Value.string x, Value.int IntKind.i64 2147483646] w'_1
 fun (e : Ending) (w' : World) =>
 ∃ (x : Int),
 e = Ending.returned (Value.int IntKind.i64 x) ∧
 KeptL [] w'_1 w' ∧
 bsp (decide (x < 0))
 (WrL w' n 0 4 ∧
 ∀ (w1 : World),
 PutB w' n 0
 [Value.string (ByteArray.mk #[]), Value.int IntKind.i64 0, Value.bool false,
 Value.slice none 0 0]
 w1 →
 KeptL [] w' w1 ∧
 ∃ (x : ByteArray),
 ∃ (x_1 : Int),
 ∃ (x_2 : Bool),
 ∃ (p : Option Addr),
 ∃ (n_2 : Nat),
 ∃ (c : Nat),
 AtL w1 n 0
 [Value.string x, Value.int IntKind.i64 x_1, Value.bool x_2,
 Value.slice p n_2 c] ∧
 R
 (Ending.returned
 (Value.tuple
 #[Value.agg
 #[Value.string x, Value.int IntKind.i64 x_1, Value.bool x_2,
 Value.slice p n_2 c],
 Value.int IntKind.i64 2]))
 w1)
 (nn true p fun (b o : Nat) =>
 ((0 : Int) ≤ 2 ∧ 2 < (↑n_1 : Int)) ∧
 ∃ (x_1 : ByteArray),
 w'.cell? (Addr.mk b (o + 2) none) = some (Value.string x_1) ∧
 nn (!x_1.toList == [(ByteArray.mk #[121]).get! 0]) p fun (b o : Nat) =>
 gimp (!x_1.toList == [(ByteArray.mk #[121]).get! 0])
 ((0 : Int) ≤ 2 ∧ 2 < (↑n_1 : Int)) ∧
 ∃ (x_2 : ByteArray),
 gimp (!x_1.toList == [(ByteArray.mk #[121]).get! 0])
 (w'.cell? (Addr.mk b (o + 2) none) = some (Value.string x_2)) ∧
 bsp
 (!x_1.toList == [(ByteArray.mk #[121]).get! 0] &&
 !x_2.toList == [(ByteArray.mk #[110]).get! 0])
 (WrL w' n 0 4 ∧
 ∀ (w1 : World),
 PutB w' n 0
 [Value.string (ByteArray.mk #[]), Value.int IntKind.i64 0,
 Value.bool false, Value.slice none 0 0]
 w1 →
 KeptL [] w' w1 ∧
 ∃ (x : ByteArray),
 ∃ (x_3 : Int),
 ∃ (x_4 : Bool),
 ∃ (p : Option Addr),
 ∃ (n_2 : Nat),
 ∃ (c : Nat),
 AtL w1 n 0
 [Value.string x, Value.int IntKind.i64 x_3, Value.bool x_4,
 Value.slice p n_2 c] ∧
 R
 (Ending.returned
 (Value.tuple
 #[Value.agg
 #[Value.string x, Value.int IntKind.i64 x_3,
 Value.bool x_4, Value.slice p n_2 c],
 Value.int IntKind.i64 3]))
 w1)
 (∀ (W : World),
 Loc w.heap.size [] w' W →
 ∃ (S : World → Prop),
 S W ∧
 nn true p fun (b o : Nat) =>
 ((0 : Int) ≤ 0 ∧ 0 < (↑n_1 : Int)) ∧
 ∃ (x_3 : ByteArray),
 (∀ (w' : World),
 S w' → w'.cell? (Addr.mk b o none) = some (Value.string x_3)) ∧
 nn true p fun (b o : Nat) =>
 ((0 : Int) ≤ 2 ∧ 2 < (↑n_1 : Int)) ∧
 ∃ (x_4 : ByteArray),
 (∀ (w' : World),
 S w' →
 w'.cell? (Addr.mk b (o + 2) none) =
 some (Value.string x_4)) ∧
 ∀ (n_2 : Nat) (w1 : World),
 NewB W
 (Obj.cells
 #[Value.string (ByteArray.mk #[]),
 Value.int IntKind.i64 0, Value.bool false,
 Value.slice none 0 0]
 36)
 n_2 w1 →
 S w1 ∧
 WrL w1 n_2 0 4 ∧
 ∀ (w1_1 : World),
 PutB w1 n_2 0
 [Value.string x_3, Value.int IntKind.i64 x,
 Value.bool
 (x_4.toList == [(ByteArray.mk #[110]).get! 0]),
 Value.slice none 0 0]
 w1_1 →
 KeptL [] W w1_1 ∧
 bsp ((↑n_1 : Int) == 4)
 (nn true p fun (b o : Nat) =>
 ((0 : Int) ≤ 3 ∧ 3 < (↑n_1 : Int)) ∧
 ∃ (x_5 : ByteArray),
 w1_1.cell? (Addr.mk b (o + 3) none) =
 some (Value.string x_5) ∧
 CallsS Tryz.prog 75
 #[Value.string x_5, Value.int IntKind.i64 x]
 w1_1 fun (e : Ending) (w' : World) =>
 ∃ (p : Option Addr),
 ∃ (n_3 : Nat),
 ∃ (c : Nat),
 ∃ (x : Bool),
 e =
 Ending.returned
 (Value.tuple
 #[Value.slice p n_3 c, Value.bool x]) ∧
 KeptL [] w1_1 w' ∧
 bsp (!x)
 (WrL w' n 0 4 ∧
 ∀ (w1 : World),
 PutB w' n 0
 [Value.string (ByteArray.mk #[]),
 Value.int IntKind.i64 0,
 Value.bool false,
 Value.slice none 0 0]
 w1 →
 KeptL [] w' w1 ∧
 ∃ (x : ByteArray),
 ∃ (x_6 : Int),
 ∃ (x_7 : Bool),
 ∃ (p : Option Addr),
 ∃ (n_4 : Nat),
 ∃ (c : Nat),
 AtL w1 n 0
 [Value.string x,
 Value.int IntKind.i64 x_6,
 Value.bool x_7,
 Value.slice p n_4 c] ∧
 R
 (Ending.returned
 (Value.tuple
 #[Value.agg
 #[Value.string x,
 Value.int IntKind.i64
 x_6,
 Value.bool x_7,
 Value.slice p n_4 c],
 Value.int IntKind.i64
 3]))
 w1)
 (((∃ (u : Value),
 w'.cell? (Addr.mk n_2 (0 + 3) none) =
 some u) ∧
 w'.frozen?
 (Addr.mk n_2 (0 + 3) none) =
 false) ∧
 ∀ (w1 : World),
 PutB w' n_2 (0 + 3)
 [Value.slice p n_3 c] w1 →
 KeptL [] w' w1 ∧
 ∃ (x : ByteArray),
 ∃ (x_6 : Int),
 ∃ (x_7 : Bool),
 ∃ (p : Option Addr),
 ∃ (n_4 : Nat),
 ∃ (c : Nat),
 AtL w1 n_2 0
 [Value.string x,
 Value.int IntKind.i64 x_6,
 Value.bool x_7,
 Value.slice p n_4 c] ∧
 WrL w1 n 0 4 ∧
 ∀ (w1_2 : World),
 PutB w1 n 0
 [Value.string x,
 Value.int IntKind.i64
 x_6,
 Value.bool x_7,
 Value.slice p n_4 c]
 w1_2 →
 KeptL [] w1 w1_2 ∧
 ∃ (x : ByteArray),
 ∃ (x_8 : Int),
 ∃ (x_9 : Bool),
 ∃ (p : Option Addr),
 ∃ (n_5 : Nat),
 ∃ (c : Nat),
 AtL w1_2 n 0
 [Value.string x,
 Value.int
 IntKind.i64
 x_8,
 Value.bool x_9,
 Value.slice p
 n_5 c] ∧
 R
 (Ending.returned
 (Value.tuple
 #[Value.agg
 #[Value.string
 x,
 Value.int
 IntKind.i64
 x_8,
 Value.bool
 x_9,
 Value.slice
 p n_5 c],
 Value.int
 IntKind.i64
 0]))
 w1_2))
 (∃ (x : ByteArray),
 ∃ (x_5 : Int),
 ∃ (x_6 : Bool),
 ∃ (p : Option Addr),
 ∃ (n_3 : Nat),
 ∃ (c : Nat),
 AtL w1_1 n_2 0
 [Value.string x, Value.int IntKind.i64 x_5,
 Value.bool x_6, Value.slice p n_3 c] ∧
 WrL w1_1 n 0 4 ∧
 ∀ (w1 : World),
 PutB w1_1 n 0
 [Value.string x,
 Value.int IntKind.i64 x_5,
 Value.bool x_6, Value.slice p n_3 c]
 w1 →
 KeptL [] w1_1 w1 ∧
 ∃ (x : ByteArray),
 ∃ (x_7 : Int),
 ∃ (x_8 : Bool),
 ∃ (p : Option Addr),
 ∃ (n_4 : Nat),
 ∃ (c : Nat),
 AtL w1 n 0
 [Value.string x,
 Value.int IntKind.i64 x_7,
 Value.bool x_8,
 Value.slice p n_4 c] ∧
 R
 (Ending.returned
 (Value.tuple
 #[Value.agg
 #[Value.string x,
 Value.int IntKind.i64 x_7,
 Value.bool x_8,
 Value.slice p n_4 c],
 Value.int IntKind.i64 0]))
 w1)))))))
theorem vc_acxline (s : ByteArray) (t : ByteArray) (f : Bool) (w : World) (R : Ending → World → Prop) (h : VC_acxline s t f w R) : Calls Tryz.prog 44 ([Value.string
    s,
  Value.string t, Value.bool f] : List Value).toArray w R := by
  have e : execR2 { P := Tryz.prog, loops := [(5, [(9, Ck.int IntKind.i64)])], pur := pur1, tails := [(19, 9)], joins := [], boxes := [] } Tryz.f44.results.toList R (Tryz.f44.body.getD .skip) (initF [Value.string
    s,
  Value.string t,
  Value.bool
    f] (Tryz.f44.ntmps - ([Value.string s, Value.string t,
  Value.bool f] : List Value).length)) w = VC_acxline s t f w R := by kernel_rfl
  have hb : Tryz.f44.body = some (Tryz.f44.body.getD .skip) := by kernel_rfl
  exact calls_of_exec2' (P := Tryz.prog) (fn := Tryz.f44) (c := Tryz.f44.body.getD .skip) (args := [Value.string s,
  Value.string t, Value.bool f]) (w := w) (R := R) pur1_ok Tryz.func44 hb e h

def VC_acxparse (s : ByteArray) (w : World) (R : Ending → World → Prop) : Prop :=
 bsp (decide ((↑s.size : Int) > 1048576))
 (R (Ending.returned (Value.tuple #[Value.slice none 0 0, Value.int IntKind.i64 0, Value.int IntKind.i64 5])) w)
 (∃ (I : List Value → World → Prop),
 ∃ (m : List Value → World → Nat),
 I [Value.int IntKind.i64 1, Value.slice none 0 0, Value.string (ByteArray.mk #[]), Value.int IntKind.i64 0] w ∧
 ∀ (x : Int) (p : Option Addr) (n c : Nat) (x_1 : ByteArray) (x_2 : Int) (w' : World),
 I [Value.int IntKind.i64 x, Value.slice p n c, Value.string x_1, Value.int IntKind.i64 x_2] w' →
 bsp (decide (x_2 < (↑s.size : Int)))
 (∃ (I_1 : List Value → World → Prop),
 ∃ (m_1 : List Value → World → Nat),
 I_1 [Value.int IntKind.i64 x_2] w' ∧
 ∀ (x_3 : Int) (w'_1 : World),
 I_1 [Value.int IntKind.i64 x_3] w'_1 →
 gimp (decide (x_3 < (↑s.size : Int))) (0 ≤ x_3 ∧ x_3 < (↑s.size : Int)) ∧
 bsp (decide (x_3 < (↑s.size : Int)) && at8 s x_3.toNat != 10)
 (I_1 [Value.int IntKind.i64 (IntKind.i64.wrap (x_3 + 1))] w'_1 ∧
 m_1 [Value.int IntKind.i64 (IntKind.i64.wrap (x_3 + 1))] w'_1 < m_1 [Value.int IntKind.i64 x_3] w'_1)
 (bsp (x_3 == (↑s.size : Int))
 (R
 (Ending.returned
 (Value.tuple #[Value.slice none 0 0, Value.int IntKind.i64 x, Value.int IntKind.i64 4]))
 w'_1)
 ((0 ≤ x_2 ∧ x_2 ≤ x_3 ∧ x_3 ≤ (↑s.size : Int)) ∧
 CallsS Tryz.prog 44
 #[Value.string (s.extract x_2.toNat x_3.toNat), Value.string x_1, Value.bool (x == 1)] w'_1
 fun (e : Ending) (w'_2 : World) =>
 ∃ (x_4 : ByteArray),
 ∃ (x_5 : Int),
 ∃ (x_6 : Bool),
 ∃ (p_1 : Option Addr),
 ∃ (n_1 : Nat),
 ∃ (c_1 : Nat),
 ∃ (x_7 : Int),
 e =
 Ending.returned
 (Value.tuple
 #[Value.agg
 #[Value.string x_4, Value.int IntKind.i64 x_5, Value.bool x_6, Value.slice p_1 n_1 c_1],
 Value.int IntKind.i64 x_7]) ∧
 KeptL [] w'_1 w'_2 ∧
 ∀ (n_2 : Nat),
 bsp (x_7 == 0 && decide (x > 4096))
 (∀ (W : World),
 Loc w.heap.size
 [Blk.mk n_2 36
 [Value.string x_4, Value.int IntKind.i64 x_5, Value.bool x_6, Value.slice p_1 n_1 c_1]
 (wrM 2)]
 w'_2 W →
 R
 (Ending.returned
 (Value.tuple #[Value.slice none 0 0, Value.int IntKind.i64 x, Value.int IntKind.i64 9]))
 W)
 (bsp (x_7 != 0)
 (∀ (W : World),
 Loc w.heap.size
 [Blk.mk n_2 36
 [Value.string x_4, Value.int IntKind.i64 x_5, Value.bool x_6, Value.slice p_1 n_1 c_1]
 (wrM 2)]
 w'_2 W →
 R
 (Ending.returned
 (Value.tuple
 #[Value.slice none 0 0, Value.int IntKind.i64 x, Value.int IntKind.i64 x_7]))
 W)
 (∀ (n_3 : Nat) (W : World),
 Loc w.heap.size
 [Blk.mk n_3 36
 [Value.string x_4, Value.int IntKind.i64 x_5, Value.bool x_6, Value.slice p_1 n_1 c_1]
 2,
 Blk.mk n_2 36
 [Value.string x_4, Value.int IntKind.i64 x_5, Value.bool x_6, Value.slice p_1 n_1 c_1]
 (wrM 2)]
 w'_2 W →
 ∃ (base : Nat),
 ∃ (xs : List Value),
 W.ownsRow base 36 4 (Value.slice p n c) n xs ∧
 n + 1 ≤ 9223372036854775807 ∧
 (n + 1) * 56 ≤ 140737488355328 ∧
 base ≤ W.heap.size ∧
 ∀ (p' : Option Addr) (c' : Nat) (w'_3 : World),
 w'_3.ownsRow base 36 4 (Value.slice p' (n + 1) c') (n + 1)
 (xs ++
 [Value.string x_4, Value.int IntKind.i64 x_5, Value.bool x_6,
 Value.slice p_1 n_1 c_1]) →
 W.grownBy w'_3 (Value.slice p n c).ownBlock →
 AppL W p n c 1 p' c' →
 KeptL [n_2] W w'_3 ∧
 ∀ (W : World),
 Loc w.heap.size
 [Blk.mk n_2 36
 [Value.string x_4, Value.int IntKind.i64 x_5, Value.bool x_6,
 Value.slice p_1 n_1 c_1]
 0]
 w'_3 W →
 I
 [Value.int IntKind.i64 (IntKind.i64.wrap (x + 1)),
 Value.slice p' (n + 1) c', Value.string x_4,
 Value.int IntKind.i64 (IntKind.i64.wrap (x_3 + 1))]
 W ∧
 m
 [Value.int IntKind.i64 (IntKind.i64.wrap (x + 1)),
 Value.slice p' (n + 1) c', Value.string x_4,
 Value.int IntKind.i64 (IntKind.i64.wrap (x_3 + 1))]
 W <
 m
 [Value.int IntKind.i64 x, Value.slice p n c, Value.string x_1,
 Value.int IntKind.i64 x_2]
 w')))))
 (R (Ending.returned (Value.tuple #[Value.slice p n c, Value.int IntKind.i64 0, Value.int IntKind.i64 0])) w'))
theorem vc_acxparse (s : ByteArray) (w : World) (R : Ending → World → Prop) (h : VC_acxparse s w R) : Calls Tryz.prog 14 ([Value.string
    s] : List Value).toArray w R := by
  have e : execR2 { P := Tryz.prog, loops := [(5, [(7, Ck.int IntKind.i64), (5, Ck.slice), (8, Ck.str), (6, Ck.int IntKind.i64)]), (7, [(9, Ck.int IntKind.i64)])], pur := pur1, tails := [], joins := [], boxes := [] } Tryz.f14.results.toList R (Tryz.f14.body.getD .skip) (initF [Value.string
    s] (Tryz.f14.ntmps - ([Value.string s] : List Value).length)) w = VC_acxparse s w R := by kernel_rfl
  have hb : Tryz.f14.body = some (Tryz.f14.body.getD .skip) := by kernel_rfl
  exact calls_of_exec2' (P := Tryz.prog) (fn := Tryz.f14) (c := Tryz.f14.body.getD .skip) (args := [Value.string
    s]) (w := w) (R := R) pur1_ok Tryz.func14 hb e h

end Go.Proofs.YtgmmoghagpmpfaaGreatDoor
