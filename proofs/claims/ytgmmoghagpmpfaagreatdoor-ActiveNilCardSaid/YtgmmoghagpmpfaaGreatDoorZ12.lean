/- The formulas of functions by the symbolic evaluator, and that each gives the call's contract. Written by a program (gen.py). No condition. -/
import Derived.Test.YtgmmoghagpmpfaaGreatDoorProg
import Derived.Test.YtgmmoghagpmpfaaGreatDoorZ02
import Derived.Test.YtgmmoghagpmpfaaGreatDoorZ04
import Derived.KernelRfl
import Derived.Test.YtgmmoghagpmpfaaGreatDoorZ11
namespace Go.Proofs.YtgmmoghagpmpfaaGreatDoor
set_option maxRecDepth 100000
set_option linter.unusedVariables false

def VC_nfind (s : ByteArray) (w : World) (R : Ending → World → Prop) : Prop :=
 ∀ (n : Nat) (W : World),
 Loc w.heap.size [Blk.mk n 94 [Value.int IntKind.i64 0, Value.bool false, Value.slice none 0 0] (wrM 2)] w W →
 R
 (Ending.returned
 (Value.tuple
 #[Value.agg #[Value.int IntKind.i64 0, Value.bool false, Value.slice none 0 0], Value.int IntKind.i64 1]))
 W
theorem vc_nfind (s : ByteArray) (w : World) (R : Ending → World → Prop) (h : VC_nfind s w R) : Calls Tryz.prog 45 ([Value.pointer
    none,
  Value.string s] : List Value).toArray w R := by
  have e : execR2 { P := Tryz.prog, loops := [], pur := pur1, tails := [], joins := [], boxes := [] } Tryz.f45.results.toList R (Tryz.f45.body.getD .skip) (initF [Value.pointer
    none,
  Value.string
    s] (Tryz.f45.ntmps - ([Value.pointer none,
  Value.string s] : List Value).length)) w = VC_nfind s w R := by kernel_rfl
  have hb : Tryz.f45.body = some (Tryz.f45.body.getD .skip) := by kernel_rfl
  exact calls_of_exec2' (P := Tryz.prog) (fn := Tryz.f45) (c := Tryz.f45.body.getD .skip) (args := [Value.pointer none,
  Value.string s]) (w := w) (R := R) pur1_ok Tryz.func45 hb e h

def VC_nassign (p : Option Addr) (n : Nat) (c : Nat) (w : World) (R : Ending → World → Prop) : Prop :=
 R (Ending.returned (Value.tuple #[Value.slice none 0 0, Value.int IntKind.i64 1])) w
theorem vc_nassign (p : Option Addr) (n : Nat) (c : Nat) (w : World) (R : Ending → World → Prop) (h : VC_nassign p n c w R) : Calls Tryz.prog 27 ([Value.pointer
    none,
  Value.slice p n c] : List Value).toArray w R := by
  have e : execR2 { P := Tryz.prog, loops := [(4, [(26, Ck.int IntKind.i64)]), (11, [(39, Ck.int IntKind.i64), (8, Ck.int IntKind.i64)]), (25, [(68, Ck.int IntKind.i64), (13, Ck.slice)])], pur := pur1, tails := [(30, 6)], joins := [], boxes := [] } Tryz.f27.results.toList R (Tryz.f27.body.getD .skip) (initF [Value.pointer
    none,
  Value.slice p n
    c] (Tryz.f27.ntmps - ([Value.pointer none,
  Value.slice p n c] : List Value).length)) w = VC_nassign p n c w R := by kernel_rfl
  have hb : Tryz.f27.body = some (Tryz.f27.body.getD .skip) := by kernel_rfl
  exact calls_of_exec2' (P := Tryz.prog) (fn := Tryz.f27) (c := Tryz.f27.body.getD .skip) (args := [Value.pointer none,
  Value.slice p n c]) (w := w) (R := R) pur1_ok Tryz.func27 hb e h

def VC_nget (s : ByteArray) (w : World) (R : Ending → World → Prop) : Prop :=
 ∀ (n : Nat) (W : World),
 Loc w.heap.size
 [Blk.mk n 31
 [Value.string (ByteArray.mk #[]), Value.int IntKind.i64 0, Value.int IntKind.i64 0, Value.int IntKind.i64 0,
 Value.bool false]
 2]
 w W →
 CallsS Tryz.prog 45 #[Value.pointer none, Value.string s] W fun (e : Ending) (w' : World) =>
 ∃ (x : Int),
 ∃ (x_1 : Bool),
 ∃ (p : Option Addr),
 ∃ (n_1 : Nat),
 ∃ (c : Nat),
 ∃ (x_2 : Int),
 e =
 Ending.returned
 (Value.tuple
 #[Value.agg #[Value.int IntKind.i64 x, Value.bool x_1, Value.slice p n_1 c], Value.int IntKind.i64 x_2]) ∧
 KeptL [n] W w' ∧
 ∀ (n_2 : Nat),
 bsp (x_2 != 0)
 (∀ (W : World),
 Loc w.heap.size
 [Blk.mk n_2 94 [Value.int IntKind.i64 x, Value.bool x_1, Value.slice p n_1 c] (wrM 2),
 Blk.mk n 31
 [Value.string (ByteArray.mk #[]), Value.int IntKind.i64 0, Value.int IntKind.i64 0,
 Value.int IntKind.i64 0, Value.bool false]
 (wrM 0)]
 w' W →
 R
 (Ending.returned
 (Value.tuple
 #[Value.agg
 #[Value.string (ByteArray.mk #[]), Value.int IntKind.i64 0, Value.int IntKind.i64 0,
 Value.int IntKind.i64 0, Value.bool false],
 Value.int IntKind.i64 x_2]))
 W)
 (∀ (n_3 : Nat),
 bsp (decide ((↑n_1 : Int) > 0))
 (nn true p fun (b o : Nat) =>
 ((0 : Int) ≤ 0 ∧ 0 < (↑n_1 : Int)) ∧
 ∃ (x_3 : Int),
 (∀ (W : World),
 Loc w.heap.size
 [Blk.mk n_3 31
 [Value.string s, Value.int IntKind.i64 (IntKind.i64.wrap (x + 1)), Value.int IntKind.i64 x,
 Value.int IntKind.i64 0, Value.bool x_1]
 (wrM 2),
 Blk.mk n_2 94 [Value.int IntKind.i64 x, Value.bool x_1, Value.slice p n_1 c] (wrM 2),
 Blk.mk n 31
 [Value.string (ByteArray.mk #[]), Value.int IntKind.i64 0, Value.int IntKind.i64 0,
 Value.int IntKind.i64 0, Value.bool false]
 0]
 w' W →
 W.cell? (Addr.mk b o none) = some (Value.int IntKind.i64 x_3)) ∧
 ∀ (W : World),
 Loc w.heap.size
 [Blk.mk n_3 31
 [Value.string s, Value.int IntKind.i64 x_3, Value.int IntKind.i64 x, Value.int IntKind.i64 0,
 Value.bool x_1]
 (wrM (wrM 2)),
 Blk.mk n_2 94 [Value.int IntKind.i64 x, Value.bool x_1, Value.slice p n_1 c] (wrM 2),
 Blk.mk n 31
 [Value.string (ByteArray.mk #[]), Value.int IntKind.i64 0, Value.int IntKind.i64 0,
 Value.int IntKind.i64 0, Value.bool false]
 0]
 w' W →
 ∃ (I : List Value → World → Prop),
 ∃ (m : List Value → World → Nat),
 I [Value.int IntKind.i64 0] W ∧
 ∀ (x_4 : Int) (w' : World),
 I [Value.int IntKind.i64 x_4] w' →
 Loc w.heap.size
 [Blk.mk n_2 94 [Value.int IntKind.i64 x, Value.bool x_1, Value.slice p n_1 c] 0,
 Blk.mk n 31
 [Value.string (ByteArray.mk #[]), Value.int IntKind.i64 0, Value.int IntKind.i64 0,
 Value.int IntKind.i64 0, Value.bool false]
 0]
 w' w' →
 bsp (decide (x_4 < (↑n_1 : Int)))
 (nn true p fun (b o : Nat) =>
 (0 ≤ x_4 ∧ x_4 < (↑n_1 : Int)) ∧
 ∃ (x_5 : Int),
 ∃ (x_6 : Int),
 AtL w' b (o + x_4.toNat * 2) [Value.int IntKind.i64 x_5, Value.int IntKind.i64 x_6] ∧
 ∀ (n_4 : Nat),
 ∃ (x_7 : Int),
 (∀ (W : World),
 Loc w.heap.size
 [Blk.mk n_2 94 [Value.int IntKind.i64 x, Value.bool x_1, Value.slice p n_1 c] 0,
 Blk.mk n 31
 [Value.string (ByteArray.mk #[]), Value.int IntKind.i64 0,
 Value.int IntKind.i64 0, Value.int IntKind.i64 0, Value.bool false]
 0,
 Blk.mk n_4 105 [Value.int IntKind.i64 x_5, Value.int IntKind.i64 x_6] (wrM 2)]
 w' W →
 W.cell? (Addr.mk n_3 (0 + 3) none) = some (Value.int IntKind.i64 x_7)) ∧
 ∀ (W : World),
 Loc w.heap.size
 [Blk.mk n_2 94 [Value.int IntKind.i64 x, Value.bool x_1, Value.slice p n_1 c] 0,
 Blk.mk n 31
 [Value.string (ByteArray.mk #[]), Value.int IntKind.i64 0,
 Value.int IntKind.i64 0, Value.int IntKind.i64 0, Value.bool false]
 0,
 Blk.mk n_4 105 [Value.int IntKind.i64 x_5, Value.int IntKind.i64 x_6] (wrM 2)]
 w' W →
 ((∃ (u : Value), W.cell? (Addr.mk n_3 (0 + 3) none) = some u) ∧
 W.frozen? (Addr.mk n_3 (0 + 3) none) = false) ∧
 ∀ (w1 : World),
 PutB W n_3 (0 + 3)
 [Value.int IntKind.i64
 (IntKind.i64.wrap
 (x_7 + IntKind.i64.wrap (IntKind.i64.wrap (x_6 - x_5) + 1)))]
 w1 →
 KeptL [n_2, n, n_4] W w1 ∧
 I [Value.int IntKind.i64 (IntKind.i64.wrap (x_4 + 1))] w1 ∧
 m [Value.int IntKind.i64 (IntKind.i64.wrap (x_4 + 1))] w1 <
 m [Value.int IntKind.i64 x_4] w')
 (∃ (x_5 : ByteArray),
 ∃ (x_6 : Int),
 ∃ (x_7 : Int),
 ∃ (x_8 : Int),
 ∃ (x_9 : Bool),
 AtL w' n_3 0
 [Value.string x_5, Value.int IntKind.i64 x_6, Value.int IntKind.i64 x_7,
 Value.int IntKind.i64 x_8, Value.bool x_9] ∧
 ∀ (W : World),
 Loc w.heap.size
 [Blk.mk n_2 94 [Value.int IntKind.i64 x, Value.bool x_1, Value.slice p n_1 c] 0,
 Blk.mk n 31
 [Value.string x_5, Value.int IntKind.i64 x_6, Value.int IntKind.i64 x_7,
 Value.int IntKind.i64 x_8, Value.bool x_9]
 (wrM 0)]
 w' W →
 R
 (Ending.returned
 (Value.tuple
 #[Value.agg
 #[Value.string x_5, Value.int IntKind.i64 x_6, Value.int IntKind.i64 x_7,
 Value.int IntKind.i64 x_8, Value.bool x_9],
 Value.int IntKind.i64 0]))
 W))
 (∀ (W : World),
 Loc w.heap.size
 [Blk.mk n_3 31
 [Value.string s, Value.int IntKind.i64 (IntKind.i64.wrap (x + 1)), Value.int IntKind.i64 x,
 Value.int IntKind.i64 0, Value.bool x_1]
 (wrM 2),
 Blk.mk n_2 94 [Value.int IntKind.i64 x, Value.bool x_1, Value.slice p n_1 c] (wrM 2),
 Blk.mk n 31
 [Value.string (ByteArray.mk #[]), Value.int IntKind.i64 0, Value.int IntKind.i64 0,
 Value.int IntKind.i64 0, Value.bool false]
 0]
 w' W →
 ∃ (I : List Value → World → Prop),
 ∃ (m : List Value → World → Nat),
 I [Value.int IntKind.i64 0] W ∧
 ∀ (x_3 : Int) (w' : World),
 I [Value.int IntKind.i64 x_3] w' →
 Loc w.heap.size
 [Blk.mk n_2 94 [Value.int IntKind.i64 x, Value.bool x_1, Value.slice p n_1 c] 0,
 Blk.mk n 31
 [Value.string (ByteArray.mk #[]), Value.int IntKind.i64 0, Value.int IntKind.i64 0,
 Value.int IntKind.i64 0, Value.bool false]
 0]
 w' w' →
 bsp (decide (x_3 < (↑n_1 : Int)))
 (nn true p fun (b o : Nat) =>
 (0 ≤ x_3 ∧ x_3 < (↑n_1 : Int)) ∧
 ∃ (x_4 : Int),
 ∃ (x_5 : Int),
 AtL w' b (o + x_3.toNat * 2) [Value.int IntKind.i64 x_4, Value.int IntKind.i64 x_5] ∧
 ∀ (n_4 : Nat),
 ∃ (x_6 : Int),
 (∀ (W : World),
 Loc w.heap.size
 [Blk.mk n_2 94 [Value.int IntKind.i64 x, Value.bool x_1, Value.slice p n_1 c] 0,
 Blk.mk n 31
 [Value.string (ByteArray.mk #[]), Value.int IntKind.i64 0, Value.int IntKind.i64 0,
 Value.int IntKind.i64 0, Value.bool false]
 0,
 Blk.mk n_4 105 [Value.int IntKind.i64 x_4, Value.int IntKind.i64 x_5] (wrM 2)]
 w' W →
 W.cell? (Addr.mk n_3 (0 + 3) none) = some (Value.int IntKind.i64 x_6)) ∧
 ∀ (W : World),
 Loc w.heap.size
 [Blk.mk n_2 94 [Value.int IntKind.i64 x, Value.bool x_1, Value.slice p n_1 c] 0,
 Blk.mk n 31
 [Value.string (ByteArray.mk #[]), Value.int IntKind.i64 0, Value.int IntKind.i64 0,
 Value.int IntKind.i64 0, Value.bool false]
 0,
 Blk.mk n_4 105 [Value.int IntKind.i64 x_4, Value.int IntKind.i64 x_5] (wrM 2)]
 w' W →
 ((∃ (u : Value), W.cell? (Addr.mk n_3 (0 + 3) none) = some u) ∧
 W.frozen? (Addr.mk n_3 (0 + 3) none) = false) ∧
 ∀ (w1 : World),
 PutB W n_3 (0 + 3)
 [Value.int IntKind.i64
 (IntKind.i64.wrap (x_6 + IntKind.i64.wrap (IntKind.i64.wrap (x_5 - x_4) + 1)))]
 w1 →
 KeptL [n_2, n, n_4] W w1 ∧
 I [Value.int IntKind.i64 (IntKind.i64.wrap (x_3 + 1))] w1 ∧
 m [Value.int IntKind.i64 (IntKind.i64.wrap (x_3 + 1))] w1 <
 m [Value.int IntKind.i64 x_3] w')
 (∃ (x_4 : ByteArray),
 ∃ (x_5 : Int),
 ∃ (x_6 : Int),
 ∃ (x_7 : Int),
 ∃ (x_8 : Bool),
 AtL w' n_3 0
 [Value.string x_4, Value.int IntKind.i64 x_5, Value.int IntKind.i64 x_6,
 Value.int IntKind.i64 x_7, Value.bool x_8] ∧
 ∀ (W : World),
 Loc w.heap.size
 [Blk.mk n_2 94 [Value.int IntKind.i64 x, Value.bool x_1, Value.slice p n_1 c] 0,
 Blk.mk n 31
 [Value.string x_4, Value.int IntKind.i64 x_5, Value.int IntKind.i64 x_6,
 Value.int IntKind.i64 x_7, Value.bool x_8]
 (wrM 0)]
 w' W →
 R
 (Ending.returned
 (Value.tuple
 #[Value.agg
 #[Value.string x_4, Value.int IntKind.i64 x_5, Value.int IntKind.i64 x_6,
 Value.int IntKind.i64 x_7, Value.bool x_8],
 Value.int IntKind.i64 0]))
 W)))
theorem vc_nget (s : ByteArray) (w : World) (R : Ending → World → Prop) (h : VC_nget s w R) : Calls Tryz.prog 16 ([Value.pointer
    none,
  Value.string s] : List Value).toArray w R := by
  have e : execR2 { P := Tryz.prog, loops := [(8, [(43, Ck.int IntKind.i64)])], pur := pur1, tails := [], joins := [], boxes := [] } Tryz.f16.results.toList R (Tryz.f16.body.getD .skip) (initF [Value.pointer
    none,
  Value.string
    s] (Tryz.f16.ntmps - ([Value.pointer none, Value.string s] : List Value).length)) w = VC_nget s w R := by kernel_rfl
  have hb : Tryz.f16.body = some (Tryz.f16.body.getD .skip) := by kernel_rfl
  exact calls_of_exec2' (P := Tryz.prog) (fn := Tryz.f16) (c := Tryz.f16.body.getD .skip) (args := [Value.pointer none,
  Value.string s]) (w := w) (R := R) pur1_ok Tryz.func16 hb e h

def VC_nnums (s : ByteArray) (u : Int) (v : Int) (w : World) (R : Ending → World → Prop) : Prop :=
 CallsS Tryz.prog 45 #[Value.pointer none, Value.string s] w fun (e : Ending) (w' : World) =>
 ∃ (x : Int),
 ∃ (x_1 : Bool),
 ∃ (p : Option Addr),
 ∃ (n : Nat),
 ∃ (c : Nat),
 ∃ (x_2 : Int),
 e =
 Ending.returned
 (Value.tuple
 #[Value.agg #[Value.int IntKind.i64 x, Value.bool x_1, Value.slice p n c], Value.int IntKind.i64 x_2]) ∧
 KeptL [] w w' ∧
 ∀ (n_1 : Nat),
 bsp (x_2 != 0)
 (∀ (W : World),
 Loc w.heap.size [Blk.mk n_1 94 [Value.int IntKind.i64 x, Value.bool x_1, Value.slice p n c] (wrM 2)] w' W →
 R (Ending.returned (Value.tuple #[Value.slice none 0 0, Value.int IntKind.i64 x_2])) W)
 (∀ (W : World),
 Loc w.heap.size [Blk.mk n_1 94 [Value.int IntKind.i64 x, Value.bool x_1, Value.slice p n c] (wrM 2)] w' W →
 ∃ (I : List Value → World → Prop),
 ∃ (m : List Value → World → Nat),
 I [Value.slice none 0 0, Value.int IntKind.i64 0] W ∧
 ∀ (p_1 : Option Addr) (n_2 c_1 : Nat) (x_3 : Int) (w' : World),
 I [Value.slice p_1 n_2 c_1, Value.int IntKind.i64 x_3] w' →
 Loc w.heap.size [Blk.mk n_1 94 [Value.int IntKind.i64 x, Value.bool x_1, Value.slice p n c] 0] w' w' →
 bsp (decide (x_3 < (↑n : Int)))
 (nn true p fun (b o : Nat) =>
 (0 ≤ x_3 ∧ x_3 < (↑n : Int)) ∧
 ∃ (x_4 : Int),
 ∃ (x_5 : Int),
 AtL w' b (o + x_3.toNat * 2) [Value.int IntKind.i64 x_4, Value.int IntKind.i64 x_5] ∧
 ∀ (n_3 : Nat) (W : World),
 Loc w.heap.size
 [Blk.mk n_1 94 [Value.int IntKind.i64 x, Value.bool x_1, Value.slice p n c] 0,
 Blk.mk n_3 105 [Value.int IntKind.i64 x_4, Value.int IntKind.i64 x_5] (wrM 2)]
 w' W →
 ∃ (I_1 : List Value → World → Prop),
 ∃ (m_1 : List Value → World → Nat),
 I_1 [Value.int IntKind.i64 (if u > x_4 then u else x_4), Value.slice p_1 n_2 c_1] W ∧
 ∀ (x_6 : Int) (p_2 : Option Addr) (n_4 c_2 : Nat) (w'_1 : World),
 I_1 [Value.int IntKind.i64 x_6, Value.slice p_2 n_4 c_2] w'_1 →
 Loc w.heap.size
 [Blk.mk n_1 94 [Value.int IntKind.i64 x, Value.bool x_1, Value.slice p n c] 0,
 Blk.mk n_3 105 [Value.int IntKind.i64 x_4, Value.int IntKind.i64 x_5] 0]
 w'_1 w'_1 →
 bsp (decide (x_6 ≤ if v < x_5 then v else x_5))
 (∀ (n_5 : Nat) (W : World),
 Loc w.heap.size
 [Blk.mk n_1 94 [Value.int IntKind.i64 x, Value.bool x_1, Value.slice p n c] 0,
 Blk.mk n_3 105 [Value.int IntKind.i64 x_4, Value.int IntKind.i64 x_5] 0,
 Blk.mk n_5 3 [Value.int IntKind.i64 x_6] 2]
 w'_1 W →
 ∃ (base : Nat),
 ∃ (xs : List Value),
 W.ownsRow base 3 1 (Value.slice p_2 n_4 c_2) n_4 xs ∧
 n_4 + 1 ≤ 9223372036854775807 ∧
 (n_4 + 1) * 8 ≤ 140737488355328 ∧
 base ≤ W.heap.size ∧
 ∀ (p' : Option Addr) (c' : Nat) (w' : World),
 w'.ownsRow base 3 1 (Value.slice p' (n_4 + 1) c') (n_4 + 1)
 (xs ++ [Value.int IntKind.i64 x_6]) →
 W.grownBy w' (Value.slice p_2 n_4 c_2).ownBlock →
 AppL W p_2 n_4 c_2 1 p' c' →
 KeptL [n_1, n_3] W w' ∧
 I_1
 [Value.int IntKind.i64 (IntKind.i64.wrap (x_6 + 1)),
 Value.slice p' (n_4 + 1) c']
 w' ∧
 m_1
 [Value.int IntKind.i64 (IntKind.i64.wrap (x_6 + 1)),
 Value.slice p' (n_4 + 1) c']
 w' <
 m_1 [Value.int IntKind.i64 x_6, Value.slice p_2 n_4 c_2] w'_1)
 (I [Value.slice p_2 n_4 c_2, Value.int IntKind.i64 (IntKind.i64.wrap (x_3 + 1))]
 w'_1 ∧
 m [Value.slice p_2 n_4 c_2, Value.int IntKind.i64 (IntKind.i64.wrap (x_3 + 1))]
 w'_1 <
 m [Value.slice p_1 n_2 c_1, Value.int IntKind.i64 x_3] w'))
 (R (Ending.returned (Value.tuple #[Value.slice p_1 n_2 c_1, Value.int IntKind.i64 0])) w'))
theorem vc_nnums (s : ByteArray) (u : Int) (v : Int) (w : World) (R : Ending → World → Prop) (h : VC_nnums s u v w R) : Calls Tryz.prog 34 ([Value.pointer
    none,
  Value.string s, Value.int IntKind.i64 u, Value.int IntKind.i64 v] : List Value).toArray w R := by
  have e : execR2 { P := Tryz.prog, loops := [(6, [(12, Ck.slice), (28, Ck.int IntKind.i64)]), (9, [(15, Ck.int IntKind.i64), (12, Ck.slice)])], pur := pur1, tails := [], joins := [], boxes := [] } Tryz.f34.results.toList R (Tryz.f34.body.getD .skip) (initF [Value.pointer
    none,
  Value.string s, Value.int IntKind.i64 u,
  Value.int IntKind.i64
    v] (Tryz.f34.ntmps - ([Value.pointer none, Value.string s, Value.int IntKind.i64 u,
  Value.int IntKind.i64 v] : List Value).length)) w = VC_nnums s u v w R := by kernel_rfl
  have hb : Tryz.f34.body = some (Tryz.f34.body.getD .skip) := by kernel_rfl
  exact calls_of_exec2' (P := Tryz.prog) (fn := Tryz.f34) (c := Tryz.f34.body.getD .skip) (args := [Value.pointer none,
  Value.string s, Value.int IntKind.i64 u, Value.int IntKind.i64 v]) (w := w) (R := R) pur1_ok Tryz.func34 hb e h

def VC_nnbr (s : ByteArray) (v : Int) (fw : Bool) (w : World) (R : Ending → World → Prop) : Prop :=
 ∀ (n : Nat) (W : World),
 Loc w.heap.size [Blk.mk n 64 [Value.string s, Value.int IntKind.i64 v] 2] w W →
 CallsS Tryz.prog 45 #[Value.pointer none, Value.string s] W fun (e : Ending) (w' : World) =>
 ∃ (x : Int),
 ∃ (x_1 : Bool),
 ∃ (p : Option Addr),
 ∃ (n_1 : Nat),
 ∃ (c : Nat),
 ∃ (x_2 : Int),
 e =
 Ending.returned
 (Value.tuple
 #[Value.agg #[Value.int IntKind.i64 x, Value.bool x_1, Value.slice p n_1 c], Value.int IntKind.i64 x_2]) ∧
 KeptL [n] W w' ∧
 ∀ (n_2 : Nat),
 bsp (x_2 != 0)
 (∀ (W : World),
 Loc w.heap.size
 [Blk.mk n_2 94 [Value.int IntKind.i64 x, Value.bool x_1, Value.slice p n_1 c] (wrM 2),
 Blk.mk n 64 [Value.string s, Value.int IntKind.i64 v] 0]
 w' W →
 R (Ending.returned (Value.tuple #[Value.int IntKind.i64 0, Value.int IntKind.i64 x_2])) W)
 (∀ (W : World),
 Loc w.heap.size
 [Blk.mk n_2 94 [Value.int IntKind.i64 x, Value.bool x_1, Value.slice p n_1 c] (wrM 2),
 Blk.mk n 64 [Value.string s, Value.int IntKind.i64 v] 0]
 w' W →
 ∃ (I : List Value → World → Prop),
 ∃ (m : List Value → World → Nat),
 I [Value.int IntKind.i64 0] W ∧
 ∀ (x_3 : Int) (w' : World),
 I [Value.int IntKind.i64 x_3] w' →
 Loc w.heap.size
 [Blk.mk n_2 94 [Value.int IntKind.i64 x, Value.bool x_1, Value.slice p n_1 c] 0,
 Blk.mk n 64 [Value.string s, Value.int IntKind.i64 v] 0]
 w' w' →
 bsp (decide (x_3 < (↑n_1 : Int)))
 (nn true p fun (b o : Nat) =>
 (0 ≤ x_3 ∧ x_3 < (↑n_1 : Int)) ∧
 ∃ (x_4 : Int),
 ∃ (x_5 : Int),
 AtL w' b (o + x_3.toNat * 2) [Value.int IntKind.i64 x_4, Value.int IntKind.i64 x_5] ∧
 ∀ (n_3 : Nat),
 ∃ (x_6 : Int),
 gimp fw
 (∀ (W : World),
 Loc w.heap.size
 [Blk.mk n_2 94 [Value.int IntKind.i64 x, Value.bool x_1, Value.slice p n_1 c] 0,
 Blk.mk n 64 [Value.string s, Value.int IntKind.i64 v] 0,
 Blk.mk n_3 105 [Value.int IntKind.i64 x_4, Value.int IntKind.i64 x_5] (wrM 2)]
 w' W →
 W.cell? (Addr.mk n_3 (0 + 1) none) = some (Value.int IntKind.i64 x_6)) ∧
 ∃ (x_7 : Int),
 gimp fw
 (∀ (W : World),
 Loc w.heap.size
 [Blk.mk n_2 94 [Value.int IntKind.i64 x, Value.bool x_1, Value.slice p n_1 c] 0,
 Blk.mk n 64 [Value.string s, Value.int IntKind.i64 v] 0,
 Blk.mk n_3 105 [Value.int IntKind.i64 x_4, Value.int IntKind.i64 x_5] (wrM 2)]
 w' W →
 W.cell? (Addr.mk n (0 + 1) none) = some (Value.int IntKind.i64 x_7)) ∧
 bsp (fw && decide (x_6 > x_7))
 (∀ (W : World),
 Loc w.heap.size
 [Blk.mk n_2 94 [Value.int IntKind.i64 x, Value.bool x_1, Value.slice p n_1 c] 0,
 Blk.mk n 64 [Value.string s, Value.int IntKind.i64 v] 0,
 Blk.mk n_3 105 [Value.int IntKind.i64 x_4, Value.int IntKind.i64 x_5] (wrM 2)]
 w' W →
 R
 (Ending.returned
 (Value.tuple
 #[Value.int IntKind.i64
 (if IntKind.i64.wrap (v + 1) > x_4 then IntKind.i64.wrap (v + 1) else x_4),
 Value.int IntKind.i64 0]))
 W)
 (nn true p fun (b o : Nat) =>
 (0 ≤ IntKind.i64.wrap (IntKind.i64.wrap ((↑n_1 : Int) - 1) - x_3) ∧
 IntKind.i64.wrap (IntKind.i64.wrap ((↑n_1 : Int) - 1) - x_3) < (↑n_1 : Int)) ∧
 ∃ (x_8 : Int),
 ∃ (x_9 : Int),
 (∀ (W : World),
 Loc w.heap.size
 [Blk.mk n_2 94 [Value.int IntKind.i64 x, Value.bool x_1, Value.slice p n_1 c]
 0,
 Blk.mk n 64 [Value.string s, Value.int IntKind.i64 v] 0,
 Blk.mk n_3 105 [Value.int IntKind.i64 x_4, Value.int IntKind.i64 x_5] (wrM 2)]
 w' W →
 AtL W b
 (o + (IntKind.i64.wrap (IntKind.i64.wrap ((↑n_1 : Int) - 1) - x_3)).toNat * 2)
 [Value.int IntKind.i64 x_8, Value.int IntKind.i64 x_9]) ∧
 ∀ (n_4 : Nat),
 ∃ (x_10 : Int),
 gimp (!fw)
 (∀ (W : World),
 Loc w.heap.size
 [Blk.mk n_2 94
 [Value.int IntKind.i64 x, Value.bool x_1, Value.slice p n_1 c] 0,
 Blk.mk n 64 [Value.string s, Value.int IntKind.i64 v] 0,
 Blk.mk n_4 105 [Value.int IntKind.i64 x_8, Value.int IntKind.i64 x_9]
 (wrM 2),
 Blk.mk n_3 105 [Value.int IntKind.i64 x_4, Value.int IntKind.i64 x_5]
 (wrM 2)]
 w' W →
 W.cell? (Addr.mk n_4 0 none) = some (Value.int IntKind.i64 x_10)) ∧
 ∃ (x_11 : Int),
 gimp (!fw)
 (∀ (W : World),
 Loc w.heap.size
 [Blk.mk n_2 94
 [Value.int IntKind.i64 x, Value.bool x_1, Value.slice p n_1 c] 0,
 Blk.mk n 64 [Value.string s, Value.int IntKind.i64 v] 0,
 Blk.mk n_4 105 [Value.int IntKind.i64 x_8, Value.int IntKind.i64 x_9]
 (wrM 2),
 Blk.mk n_3 105 [Value.int IntKind.i64 x_4, Value.int IntKind.i64 x_5]
 (wrM 2)]
 w' W →
 W.cell? (Addr.mk n (0 + 1) none) = some (Value.int IntKind.i64 x_11)) ∧
 bsp (!fw && decide (x_10 < x_11))
 (∀ (W : World),
 Loc w.heap.size
 [Blk.mk n_2 94
 [Value.int IntKind.i64 x, Value.bool x_1, Value.slice p n_1 c] 0,
 Blk.mk n 64 [Value.string s, Value.int IntKind.i64 v] 0,
 Blk.mk n_4 105 [Value.int IntKind.i64 x_8, Value.int IntKind.i64 x_9]
 (wrM 2),
 Blk.mk n_3 105 [Value.int IntKind.i64 x_4, Value.int IntKind.i64 x_5]
 (wrM 2)]
 w' W →
 R
 (Ending.returned
 (Value.tuple
 #[Value.int IntKind.i64
 (if IntKind.i64.wrap (v - 1) < x_9 then IntKind.i64.wrap (v - 1)
 else x_9),
 Value.int IntKind.i64 0]))
 W)
 (∀ (W : World),
 Loc w.heap.size
 [Blk.mk n_2 94
 [Value.int IntKind.i64 x, Value.bool x_1, Value.slice p n_1 c] 0,
 Blk.mk n 64 [Value.string s, Value.int IntKind.i64 v] 0,
 Blk.mk n_4 105 [Value.int IntKind.i64 x_8, Value.int IntKind.i64 x_9]
 (wrM 2),
 Blk.mk n_3 105 [Value.int IntKind.i64 x_4, Value.int IntKind.i64 x_5]
 (wrM 2)]
 w' W →
 I [Value.int IntKind.i64 (IntKind.i64.wrap (x_3 + 1))] W ∧
 m [Value.int IntKind.i64 (IntKind.i64.wrap (x_3 + 1))] W <
 m [Value.int IntKind.i64 x_3] w')))
 (R (Ending.returned (Value.tuple #[Value.int IntKind.i64 0, Value.int IntKind.i64 8])) w'))
theorem vc_nnbr (s : ByteArray) (v : Int) (fw : Bool) (w : World) (R : Ending → World → Prop) (h : VC_nnbr s v fw w R) : Calls Tryz.prog 36 ([Value.pointer
    none,
  Value.agg #[Value.string s, Value.int IntKind.i64 v], Value.bool fw] : List Value).toArray w R := by
  have e : execR2 { P := Tryz.prog, loops := [(5, [(9, Ck.int IntKind.i64)])], pur := pur1, tails := [], joins := [], boxes := [] } Tryz.f36.results.toList R (Tryz.f36.body.getD .skip) (initF [Value.pointer
    none,
  Value.agg #[Value.string s, Value.int IntKind.i64 v],
  Value.bool
    fw] (Tryz.f36.ntmps - ([Value.pointer none, Value.agg #[Value.string s, Value.int IntKind.i64 v],
  Value.bool fw] : List Value).length)) w = VC_nnbr s v fw w R := by kernel_rfl
  have hb : Tryz.f36.body = some (Tryz.f36.body.getD .skip) := by kernel_rfl
  exact calls_of_exec2' (P := Tryz.prog) (fn := Tryz.f36) (c := Tryz.f36.body.getD .skip) (args := [Value.pointer none,
  Value.agg #[Value.string s, Value.int IntKind.i64 v], Value.bool fw]) (w := w) (R := R) pur1_ok Tryz.func36 hb e h

def VC_nopen (s : ByteArray) (w : World) (R : Ending → World → Prop) : Prop :=
 R (Ending.returned (Value.int IntKind.i64 1)) w
theorem vc_nopen (s : ByteArray) (w : World) (R : Ending → World → Prop) (h : VC_nopen s w R) : Calls Tryz.prog 31 ([Value.pointer
    none,
  Value.string s] : List Value).toArray w R := by
  have e : execR2 { P := Tryz.prog, loops := [], pur := pur1, tails := [(14, 6)], joins := [], boxes := [] } Tryz.f31.results.toList R (Tryz.f31.body.getD .skip) (initF [Value.pointer
    none,
  Value.string
    s] (Tryz.f31.ntmps - ([Value.pointer none,
  Value.string s] : List Value).length)) w = VC_nopen s w R := by kernel_rfl
  have hb : Tryz.f31.body = some (Tryz.f31.body.getD .skip) := by kernel_rfl
  exact calls_of_exec2' (P := Tryz.prog) (fn := Tryz.f31) (c := Tryz.f31.body.getD .skip) (args := [Value.pointer none,
  Value.string s]) (w := w) (R := R) pur1_ok Tryz.func31 hb e h

def VC_nclose (s : ByteArray) (w : World) (R : Ending → World → Prop) : Prop :=
 CallsS Tryz.prog 45 #[Value.pointer none, Value.string s] w fun (e : Ending) (w' : World) =>
 ∃ (x : Int),
 ∃ (x_1 : Bool),
 ∃ (p : Option Addr),
 ∃ (n : Nat),
 ∃ (c : Nat),
 ∃ (x_2 : Int),
 e =
 Ending.returned
 (Value.tuple
 #[Value.agg #[Value.int IntKind.i64 x, Value.bool x_1, Value.slice p n c], Value.int IntKind.i64 x_2]) ∧
 KeptL [] w w' ∧
 ∀ (n_1 : Nat),
 bsp (x_2 != 0)
 (∀ (W : World),
 Loc w.heap.size [Blk.mk n_1 94 [Value.int IntKind.i64 x, Value.bool x_1, Value.slice p n c] (wrM 2)] w' W →
 R (Ending.returned (Value.int IntKind.i64 x_2)) W)
 (bsp x_1
 (∀ (W : World),
 Loc w.heap.size [Blk.mk n_1 94 [Value.int IntKind.i64 x, Value.bool x_1, Value.slice p n c] (wrM 2)] w' W →
 R (Ending.returned (Value.int IntKind.i64 10)) W)
 (true = false ∧
 ∃ (x_3 : Option Nat),
 (∀ (W : World),
 Loc w.heap.size
 [Blk.mk n_1 94 [Value.int IntKind.i64 x, Value.bool true, Value.slice p n c] (wrM (wrM 2))] w' W →
 W.cell? (Addr.mk 0 0 none) = some (Value.map x_3)) ∧
 ∀ (W : World),
 Loc w.heap.size
 [Blk.mk n_1 94 [Value.int IntKind.i64 x, Value.bool true, Value.slice p n c] (wrM (wrM 2))] w' W →
 ∃ (w1 : World),
 UpdP Tryz.prog 97 (Value.map x_3) (Value.string s)
 (Value.agg #[Value.int IntKind.i64 x, Value.bool true, Value.slice p n c]) W w1 ∧
 KeptL [n_1] W w1 ∧ R (Ending.returned (Value.int IntKind.i64 0)) w1))
theorem vc_nclose (s : ByteArray) (w : World) (R : Ending → World → Prop) (h : VC_nclose s w R) : Calls Tryz.prog 26 ([Value.pointer
    none,
  Value.string s] : List Value).toArray w R := by
  have e : execR2 { P := Tryz.prog, loops := [], pur := pur1, tails := [(7, 6)], joins := [], boxes := [] } Tryz.f26.results.toList R (Tryz.f26.body.getD .skip) (initF [Value.pointer
    none,
  Value.string
    s] (Tryz.f26.ntmps - ([Value.pointer none,
  Value.string s] : List Value).length)) w = VC_nclose s w R := by kernel_rfl
  have hb : Tryz.f26.body = some (Tryz.f26.body.getD .skip) := by kernel_rfl
  exact calls_of_exec2' (P := Tryz.prog) (fn := Tryz.f26) (c := Tryz.f26.body.getD .skip) (args := [Value.pointer none,
  Value.string s]) (w := w) (R := R) pur1_ok Tryz.func26 hb e h

def VC_nremove (s : ByteArray) (v : Int) (w : World) (R : Ending → World → Prop) : Prop :=
 ∀ (n : Nat) (W : World),
 Loc w.heap.size [Blk.mk n 64 [Value.string s, Value.int IntKind.i64 v] 2] w W →
 CallsS Tryz.prog 45 #[Value.pointer none, Value.string s] W fun (e : Ending) (w' : World) =>
 ∃ (x : Int),
 ∃ (x_1 : Bool),
 ∃ (p : Option Addr),
 ∃ (n_1 : Nat),
 ∃ (c : Nat),
 ∃ (x_2 : Int),
 e =
 Ending.returned
 (Value.tuple
 #[Value.agg #[Value.int IntKind.i64 x, Value.bool x_1, Value.slice p n_1 c], Value.int IntKind.i64 x_2]) ∧
 KeptL [n] W w' ∧
 ∀ (n_2 : Nat),
 bsp (x_2 != 0)
 (∀ (W : World),
 Loc w.heap.size
 [Blk.mk n_2 94 [Value.int IntKind.i64 x, Value.bool x_1, Value.slice p n_1 c] (wrM 2),
 Blk.mk n 64 [Value.string s, Value.int IntKind.i64 v] 0]
 w' W →
 R (Ending.returned (Value.int IntKind.i64 x_2)) W)
 (∀ (W : World),
 Loc w.heap.size
 [Blk.mk n_2 94 [Value.int IntKind.i64 x, Value.bool x_1, Value.slice p n_1 c] (wrM 2),
 Blk.mk n 64 [Value.string s, Value.int IntKind.i64 v] 0]
 w' W →
 CallsS Tryz.prog 63
 #[Value.agg #[Value.int IntKind.i64 x, Value.bool x_1, Value.slice p n_1 c], Value.int IntKind.i64 v] W
 fun (e : Ending) (w' : World) =>
 ∃ (x_3 : Bool),
 e = Ending.returned (Value.bool x_3) ∧
 KeptL [n_2, n] W w' ∧
 bsp (!x_3) (R (Ending.returned (Value.int IntKind.i64 8)) w')
 (∀ (n_3 : Nat) (W : World),
 Loc w.heap.size
 [Blk.mk n_3 92 [Value.slice none 0 0] 2,
 Blk.mk n_2 94 [Value.int IntKind.i64 x, Value.bool x_1, Value.slice p n_1 c] 0,
 Blk.mk n 64 [Value.string s, Value.int IntKind.i64 v] 0]
 w' W →
 ∃ (I : List Value → World → Prop),
 ∃ (m : List Value → World → Nat),
 I [Value.int IntKind.i64 0] W ∧
 ∀ (x_4 : Int) (w' : World),
 I [Value.int IntKind.i64 x_4] w' →
 Loc w.heap.size
 [Blk.mk n_2 94 [Value.int IntKind.i64 x, Value.bool x_1, Value.slice p n_1 c] 0,
 Blk.mk n 64 [Value.string s, Value.int IntKind.i64 v] 0]
 w' w' →
 bsp (decide (x_4 < (↑n_1 : Int)))
 (nn true p fun (b o : Nat) =>
 (0 ≤ x_4 ∧ x_4 < (↑n_1 : Int)) ∧
 ∃ (x_5 : Int),
 ∃ (x_6 : Int),
 AtL w' b (o + x_4.toNat * 2) [Value.int IntKind.i64 x_5, Value.int IntKind.i64 x_6] ∧
 ∀ (n_4 : Nat),
 ∃ (x_7 : Int),
 gimp (!decide (v < x_5))
 (∀ (W : World),
 Loc w.heap.size
 [Blk.mk n_2 94 [Value.int IntKind.i64 x, Value.bool x_1, Value.slice p n_1 c]
 0,
 Blk.mk n 64 [Value.string s, Value.int IntKind.i64 v] 0,
 Blk.mk n_4 105 [Value.int IntKind.i64 x_5, Value.int IntKind.i64 x_6] (wrM 2)]
 w' W →
 W.cell? (Addr.mk n (0 + 1) none) = some (Value.int IntKind.i64 x_7)) ∧
 ∃ (x_8 : Int),
 gimp (!decide (v < x_5))
 (∀ (W : World),
 Loc w.heap.size
 [Blk.mk n_2 94 [Value.int IntKind.i64 x, Value.bool x_1, Value.slice p n_1 c]
 0,
 Blk.mk n 64 [Value.string s, Value.int IntKind.i64 v] 0,
 Blk.mk n_4 105 [Value.int IntKind.i64 x_5, Value.int IntKind.i64 x_6]
 (wrM 2)]
 w' W →
 W.cell? (Addr.mk n_4 (0 + 1) none) = some (Value.int IntKind.i64 x_8)) ∧
 bsp (decide (v < x_5) || decide (x_7 > x_8))
 (∀ (W : World),
 Loc w.heap.size
 [Blk.mk n_2 94 [Value.int IntKind.i64 x, Value.bool x_1, Value.slice p n_1 c]
 0,
 Blk.mk n 64 [Value.string s, Value.int IntKind.i64 v] 0,
 Blk.mk n_4 105 [Value.int IntKind.i64 x_5, Value.int IntKind.i64 x_6]
 (wrM 2)]
 w' W →
 ∃ (f : Nat),
 ∃ (a : Array Value),
 ∃ (b : Array Value),
 Value.func (Fn.func 65) #[] #[Value.pointer (some (Addr.mk n_3 0 none))] =
 Value.func (Fn.func f) a b ∧
 okFn Tryz.prog f = true ∧
 CallsS Tryz.prog f
 (appA a [Value.int IntKind.i64 x_5, Value.int IntKind.i64 x_6] b) W
 fun (e : Ending) (w'_1 : World) =>
 e = Ending.returned (Value.tuple #[]) ∧
 KeptL [n_2, n, n_4] W w'_1 ∧
 I [Value.int IntKind.i64 (IntKind.i64.wrap (x_4 + 1))] w'_1 ∧
 m [Value.int IntKind.i64 (IntKind.i64.wrap (x_4 + 1))] w'_1 <
 m [Value.int IntKind.i64 x_4] w')
 (∀ (W : World),
 Loc w.heap.size
 [Blk.mk n_2 94 [Value.int IntKind.i64 x, Value.bool x_1, Value.slice p n_1 c]
 0,
 Blk.mk n 64 [Value.string s, Value.int IntKind.i64 v] 0,
 Blk.mk n_4 105 [Value.int IntKind.i64 x_5, Value.int IntKind.i64 x_6]
 (wrM 2)]
 w' W →
 ∃ (f : Nat),
 ∃ (a : Array Value),
 ∃ (b : Array Value),
 Value.func (Fn.func 65) #[] #[Value.pointer (some (Addr.mk n_3 0 none))] =
 Value.func (Fn.func f) a b ∧
 okFn Tryz.prog f = true ∧
 CallsS Tryz.prog f
 (appA a
 [Value.int IntKind.i64 x_5,
 Value.int IntKind.i64 (IntKind.i64.wrap (v - 1))]
 b)
 W fun (e : Ending) (w'_1 : World) =>
 e = Ending.returned (Value.tuple #[]) ∧
 KeptL [n_2, n, n_4] W w'_1 ∧
 ∃ (f : Nat),
 ∃ (a : Array Value),
 ∃ (b : Array Value),
 Value.func (Fn.func 65) #[]
 #[Value.pointer (some (Addr.mk n_3 0 none))] =
 Value.func (Fn.func f) a b ∧
 okFn Tryz.prog f = true ∧
 CallsS Tryz.prog f
 (appA a
 [Value.int IntKind.i64 (IntKind.i64.wrap (v + 1)),
 Value.int IntKind.i64 x_6]
 b)
 w'_1 fun (e : Ending) (w'_2 : World) =>
 e = Ending.returned (Value.tuple #[]) ∧
 KeptL [n_2, n, n_4] w'_1 w'_2 ∧
 I [Value.int IntKind.i64 (IntKind.i64.wrap (x_4 + 1))] w'_2 ∧
 m [Value.int IntKind.i64 (IntKind.i64.wrap (x_4 + 1))] w'_2 <
 m [Value.int IntKind.i64 x_4] w'))
 (∃ (p : Option Addr),
 ∃ (n_4 : Nat),
 ∃ (c : Nat),
 w'.cell? (Addr.mk n_3 0 none) = some (Value.slice p n_4 c) ∧
 true = false ∧
 ∃ (x_5 : Option Nat),
 (∀ (W : World),
 Loc w.heap.size
 [Blk.mk n_2 94 [Value.int IntKind.i64 x, Value.bool x_1, Value.slice p n_4 c]
 (wrM 0),
 Blk.mk n 64 [Value.string s, Value.int IntKind.i64 v] 0]
 w' W →
 W.cell? (Addr.mk 0 0 none) = some (Value.map x_5)) ∧
 ∀ (W : World),
 Loc w.heap.size
 [Blk.mk n_2 94 [Value.int IntKind.i64 x, Value.bool x_1, Value.slice p n_4 c]
 (wrM 0),
 Blk.mk n 64 [Value.string s, Value.int IntKind.i64 v] 0]
 w' W →
 ∃ (w1 : World),
 UpdP Tryz.prog 97 (Value.map x_5) (Value.string s)
 (Value.agg #[Value.int IntKind.i64 x, Value.bool x_1, Value.slice p n_4 c]) W
 w1 ∧
 KeptL [n_2, n] W w1 ∧ R (Ending.returned (Value.int IntKind.i64 0)) w1)))
theorem vc_nremove (s : ByteArray) (v : Int) (w : World) (R : Ending → World → Prop) (h : VC_nremove s v w R) : Calls Tryz.prog 33 ([Value.pointer
    none,
  Value.agg #[Value.string s, Value.int IntKind.i64 v]] : List Value).toArray w R := by
  have e : execR2 { P := Tryz.prog, loops := [(9, [(30, Ck.int IntKind.i64)])], pur := pur1, tails := [(17, 7)], joins := [], boxes := [] } Tryz.f33.results.toList R (Tryz.f33.body.getD .skip) (initF [Value.pointer
    none,
  Value.agg
    #[Value.string s,
      Value.int IntKind.i64
        v]] (Tryz.f33.ntmps - ([Value.pointer none,
  Value.agg #[Value.string s, Value.int IntKind.i64 v]] : List Value).length)) w = VC_nremove s v w R := by kernel_rfl
  have hb : Tryz.f33.body = some (Tryz.f33.body.getD .skip) := by kernel_rfl
  exact calls_of_exec2' (P := Tryz.prog) (fn := Tryz.f33) (c := Tryz.f33.body.getD .skip) (args := [Value.pointer none,
  Value.agg #[Value.string s, Value.int IntKind.i64 v]]) (w := w) (R := R) pur1_ok Tryz.func33 hb e h

def VC_nhas (s : ByteArray) (v : Int) (w : World) (R : Ending → World → Prop) : Prop :=
 ∀ (n : Nat) (W : World),
 Loc w.heap.size [Blk.mk n 64 [Value.string s, Value.int IntKind.i64 v] 2] w W →
 CallsS Tryz.prog 45 #[Value.pointer none, Value.string s] W fun (e : Ending) (w' : World) =>
 ∃ (x : Int),
 ∃ (x_1 : Bool),
 ∃ (p : Option Addr),
 ∃ (n_1 : Nat),
 ∃ (c : Nat),
 ∃ (x_2 : Int),
 e =
 Ending.returned
 (Value.tuple
 #[Value.agg #[Value.int IntKind.i64 x, Value.bool x_1, Value.slice p n_1 c], Value.int IntKind.i64 x_2]) ∧
 KeptL [n] W w' ∧
 ∀ (n_2 : Nat),
 ∃ (x_3 : Int),
 gimp (x_2 == 0)
 (∀ (W : World),
 Loc w.heap.size
 [Blk.mk n_2 94 [Value.int IntKind.i64 x, Value.bool x_1, Value.slice p n_1 c] (wrM 2),
 Blk.mk n 64 [Value.string s, Value.int IntKind.i64 v] 0]
 w' W →
 W.cell? (Addr.mk n (0 + 1) none) = some (Value.int IntKind.i64 x_3)) ∧
 ∀ (W : World),
 Loc w.heap.size
 [Blk.mk n_2 94 [Value.int IntKind.i64 x, Value.bool x_1, Value.slice p n_1 c] (wrM 2),
 Blk.mk n 64 [Value.string s, Value.int IntKind.i64 v] 0]
 w' W →
 bsp (x_2 == 0)
 (CallsS Tryz.prog 63
 #[Value.agg #[Value.int IntKind.i64 x, Value.bool x_1, Value.slice p n_1 c],
 Value.int IntKind.i64 x_3]
 W fun (e : Ending) (w' : World) =>
 ∃ (x : Bool),
 e = Ending.returned (Value.bool x) ∧
 KeptL [n_2, n] W w' ∧ R (Ending.returned (Value.bool (true && x))) w')
 (KeptL [n_2, n] W W ∧ R (Ending.returned (Value.bool false)) W)
theorem vc_nhas (s : ByteArray) (v : Int) (w : World) (R : Ending → World → Prop) (h : VC_nhas s v w R) : Calls Tryz.prog 30 ([Value.pointer
    none,
  Value.agg #[Value.string s, Value.int IntKind.i64 v]] : List Value).toArray w R := by
  have e : execR2 { P := Tryz.prog, loops := [], pur := pur1, tails := [], joins := [], boxes := [] } Tryz.f30.results.toList R (Tryz.f30.body.getD .skip) (initF [Value.pointer
    none,
  Value.agg
    #[Value.string s,
      Value.int IntKind.i64
        v]] (Tryz.f30.ntmps - ([Value.pointer none,
  Value.agg #[Value.string s, Value.int IntKind.i64 v]] : List Value).length)) w = VC_nhas s v w R := by kernel_rfl
  have hb : Tryz.f30.body = some (Tryz.f30.body.getD .skip) := by kernel_rfl
  exact calls_of_exec2' (P := Tryz.prog) (fn := Tryz.f30) (c := Tryz.f30.body.getD .skip) (args := [Value.pointer none,
  Value.agg #[Value.string s, Value.int IntKind.i64 v]]) (w := w) (R := R) pur1_ok Tryz.func30 hb e h

def VC_ngroups (w : World) (R : Ending → World → Prop) : Prop :=
 R (Ending.returned (Value.slice none 0 0)) w
theorem vc_ngroups (w : World) (R : Ending → World → Prop) (h : VC_ngroups w R) : Calls Tryz.prog 18 ([Value.pointer
    none] : List Value).toArray w R := by
  have e : execR2 { P := Tryz.prog, loops := [(5, [(3, Ck.slice)])], pur := pur1, tails := [], joins := [], boxes := [], rngs := [(11, 97)] } Tryz.f18.results.toList R (Tryz.f18.body.getD .skip) (initF [Value.pointer
    none] (Tryz.f18.ntmps - ([Value.pointer none] : List Value).length)) w = VC_ngroups w R := by kernel_rfl
  have hb : Tryz.f18.body = some (Tryz.f18.body.getD .skip) := by kernel_rfl
  exact calls_of_exec2' (P := Tryz.prog) (fn := Tryz.f18) (c := Tryz.f18.body.getD .skip) (args := [Value.pointer
    none]) (w := w) (R := R) pur1_ok Tryz.func18 hb e h

def VC_nprint (w : World) (R : Ending → World → Prop) : Prop :=
 ∀ (n : Nat) (W : World),
 Loc w.heap.size [Blk.mk n 109 [Value.pointer none, Value.slice none 0 0] 2] w W →
 CallsS Tryz.prog 18 #[Value.pointer none] W fun (e : Ending) (w' : World) =>
 ∃ (p : Option Addr),
 ∃ (n_1 : Nat),
 ∃ (c : Nat),
 e = Ending.returned (Value.slice p n_1 c) ∧
 KeptL [n] W w' ∧
 ∃ (I : List Value → World → Prop),
 ∃ (m : List Value → World → Nat),
 I [Value.int IntKind.i64 0] w' ∧
 ∀ (x : Int) (w' : World),
 I [Value.int IntKind.i64 x] w' →
 bsp (decide (x < (↑n_1 : Int)))
 (nn true p fun (b o : Nat) =>
 (0 ≤ x ∧ x < (↑n_1 : Int)) ∧
 ∃ (x_1 : ByteArray),
 w'.cell? (Addr.mk b (o + x.toNat) none) = some (Value.string x_1) ∧
 true = false ∧
 ∃ (x_2 : Option Nat),
 w'.cell? (Addr.mk 0 0 none) = some (Value.map x_2) ∧
 ∃ (x_3 : Int),
 ∃ (x_4 : Bool),
 ∃ (p : Option Addr),
 ∃ (n_2 : Nat),
 ∃ (c : Nat),
 LookP Tryz.prog 97 (Value.map x_2) (Value.string x_1) false
 (Value.agg #[Value.int IntKind.i64 x_3, Value.bool x_4, Value.slice p n_2 c]) w' ∧
 ∀ (n_3 : Nat) (W : World),
 Loc w.heap.size
 [Blk.mk n_3 94 [Value.int IntKind.i64 x_3, Value.bool x_4, Value.slice p n_2 c] (wrM 2)]
 w' W →
 CallsS Tryz.prog 46 #[Value.int IntKind.i64 x_3] W fun (e : Ending) (w'_1 : World) =>
 ∃ (x_5 : ByteArray),
 e = Ending.returned (Value.string x_5) ∧
 KeptL [n_3] W w'_1 ∧
 ∀ (n_4 : Nat),
 bsp x_4
 (((0 : Int) ≤ 2 ∧ 2 < (↑3 : Int)) ∧
 ∀ (W : World),
 Loc w.heap.size
 [Blk.mk n_4 9
 [Value.string x_1, Value.string x_5, Value.string (ByteArray.mk #[121])] 2,
 Blk.mk n_3 94 [Value.int IntKind.i64 x_3, Value.bool x_4, Value.slice p n_2 c]
 0]
 w'_1 W →
 ((∃ (u : Value), W.cell? (Addr.mk n_4 2 none) = some u) ∧
 W.frozen? (Addr.mk n_4 2 none) = false) ∧
 ∀ (w1 : World),
 PutB W n_4 2 [Value.string (ByteArray.mk #[110])] w1 →
 KeptL [n_4, n_3] W w1 ∧
 bsp (decide ((↑n_2 : Int) > 0))
 (CallsS Tryz.prog 47 #[Value.slice p n_2 c] w1
 fun (e : Ending) (w'_2 : World) =>
 ∃ (x_6 : ByteArray),
 e = Ending.returned (Value.string x_6) ∧
 KeptL [n_4, n_3] w1 w'_2 ∧
 ∀ (n_5 : Nat) (W : World),
 Loc w.heap.size
 [Blk.mk n_5 9 [Value.string x_6] 2,
 Blk.mk n_4 9
 [Value.string x_1, Value.string x_5,
 Value.string (ByteArray.mk #[121])]
 0,
 Blk.mk n_3 94
 [Value.int IntKind.i64 x_3, Value.bool x_4, Value.slice p n_2 c] 0]
 w'_2 W →
 ∃ (base : Nat),
 ∃ (xs : List Value),
 W.ownsRow base 9 1 (Value.slice (some (Addr.mk n_4 0 none)) 3 3) 3
 xs ∧
 (4 : Nat) ≤ 9223372036854775807 ∧
 (64 : Nat) ≤ 140737488355328 ∧
 base ≤ W.heap.size ∧
 ∀ (p' : Option Addr) (c' : Nat) (w'_3 : World),
 w'_3.ownsRow base 9 1 (Value.slice p' 4 c') 4
 (xs ++ [Value.string x_6]) →
 W.grownBy w'_3
 (Value.slice (some (Addr.mk n_4 0 none)) 3 3).ownBlock →
 AppL W (some (Addr.mk n_4 0 none)) 3 3 1 p' c' →
 KeptL [n_4, n_3] W w'_3 ∧
 CallsS Tryz.prog 49
 #[Value.slice p' 4 c', Value.string (ByteArray.mk #[32])]
 w'_3 fun (e : Ending) (w'_4 : World) =>
 ∃ (x_7 : ByteArray),
 e = Ending.returned (Value.string x_7) ∧
 KeptL [n_4, n_3] w'_3 w'_4 ∧
 CallsS Tryz.prog 48
 #[Value.pointer (some (Addr.mk n 0 none)),
 Value.string x_7]
 w'_4 fun (e : Ending) (w'_5 : World) =>
 ∃ (x_8 : Int),
 ∃ (x_9 : Value),
 e =
 Ending.returned
 (Value.tuple #[Value.int IntKind.i64 x_8, x_9]) ∧
 KeptL [n_4, n_3] w'_4 w'_5 ∧
 CallsS Tryz.prog 48
 #[Value.pointer (some (Addr.mk n 0 none)),
 Value.string (ByteArray.mk #[10])]
 w'_5 fun (e : Ending) (w'_6 : World) =>
 ∃ (x_10 : Int),
 ∃ (x_11 : Value),
 e =
 Ending.returned
 (Value.tuple
 #[Value.int IntKind.i64 x_10, x_11]) ∧
 KeptL [n_4, n_3] w'_5 w'_6 ∧
 I
 [Value.int IntKind.i64
 (IntKind.i64.wrap (x + 1))]
 w'_6 ∧
 m
 [Value.int IntKind.i64
 (IntKind.i64.wrap (x + 1))]
 w'_6 <
 m [Value.int IntKind.i64 x] w')
 (CallsS Tryz.prog 49
 #[Value.slice (some (Addr.mk n_4 0 none)) 3 3,
 Value.string (ByteArray.mk #[32])]
 w1 fun (e : Ending) (w'_2 : World) =>
 ∃ (x_6 : ByteArray),
 e = Ending.returned (Value.string x_6) ∧
 KeptL [n_4, n_3] w1 w'_2 ∧
 CallsS Tryz.prog 48
 #[Value.pointer (some (Addr.mk n 0 none)), Value.string x_6] w'_2
 fun (e : Ending) (w'_3 : World) =>
 ∃ (x_7 : Int),
 ∃ (x_8 : Value),
 e = Ending.returned (Value.tuple #[Value.int IntKind.i64 x_7, x_8]) ∧
 KeptL [n_4, n_3] w'_2 w'_3 ∧
 CallsS Tryz.prog 48
 #[Value.pointer (some (Addr.mk n 0 none)),
 Value.string (ByteArray.mk #[10])]
 w'_3 fun (e : Ending) (w'_4 : World) =>
 ∃ (x_9 : Int),
 ∃ (x_10 : Value),
 e =
 Ending.returned
 (Value.tuple #[Value.int IntKind.i64 x_9, x_10]) ∧
 KeptL [n_4, n_3] w'_3 w'_4 ∧
 I [Value.int IntKind.i64 (IntKind.i64.wrap (x + 1))] w'_4 ∧
 m [Value.int IntKind.i64 (IntKind.i64.wrap (x + 1))] w'_4 <
 m [Value.int IntKind.i64 x] w'))
 (bsp (decide ((↑n_2 : Int) > 0))
 (∀ (W : World),
 Loc w.heap.size
 [Blk.mk n_4 9
 [Value.string x_1, Value.string x_5, Value.string (ByteArray.mk #[121])] 2,
 Blk.mk n_3 94 [Value.int IntKind.i64 x_3, Value.bool x_4, Value.slice p n_2 c]
 0]
 w'_1 W →
 CallsS Tryz.prog 47 #[Value.slice p n_2 c] W fun (e : Ending) (w'_2 : World) =>
 ∃ (x_6 : ByteArray),
 e = Ending.returned (Value.string x_6) ∧
 KeptL [n_4, n_3] W w'_2 ∧
 ∀ (n_5 : Nat) (W : World),
 Loc w.heap.size
 [Blk.mk n_5 9 [Value.string x_6] 2,
 Blk.mk n_4 9
 [Value.string x_1, Value.string x_5, Value.string (ByteArray.mk #[121])]
 0,
 Blk.mk n_3 94
 [Value.int IntKind.i64 x_3, Value.bool x_4, Value.slice p n_2 c] 0]
 w'_2 W →
 ∃ (base : Nat),
 ∃ (xs : List Value),
 W.ownsRow base 9 1 (Value.slice (some (Addr.mk n_4 0 none)) 3 3) 3 xs ∧
 (4 : Nat) ≤ 9223372036854775807 ∧
 (64 : Nat) ≤ 140737488355328 ∧
 base ≤ W.heap.size ∧
 ∀ (p' : Option Addr) (c' : Nat) (w'_3 : World),
 w'_3.ownsRow base 9 1 (Value.slice p' 4 c') 4
 (xs ++ [Value.string x_6]) →
 W.grownBy w'_3
 (Value.slice (some (Addr.mk n_4 0 none)) 3 3).ownBlock →
 AppL W (some (Addr.mk n_4 0 none)) 3 3 1 p' c' →
 KeptL [n_4, n_3] W w'_3 ∧
 CallsS Tryz.prog 49
 #[Value.slice p' 4 c', Value.string (ByteArray.mk #[32])] w'_3
 fun (e : Ending) (w'_4 : World) =>
 ∃ (x_7 : ByteArray),
 e = Ending.returned (Value.string x_7) ∧
 KeptL [n_4, n_3] w'_3 w'_4 ∧
 CallsS Tryz.prog 48
 #[Value.pointer (some (Addr.mk n 0 none)), Value.string x_7]
 w'_4 fun (e : Ending) (w'_5 : World) =>
 ∃ (x_8 : Int),
 ∃ (x_9 : Value),
 e =
 Ending.returned
 (Value.tuple #[Value.int IntKind.i64 x_8, x_9]) ∧
 KeptL [n_4, n_3] w'_4 w'_5 ∧
 CallsS Tryz.prog 48
 #[Value.pointer (some (Addr.mk n 0 none)),
 Value.string (ByteArray.mk #[10])]
 w'_5 fun (e : Ending) (w'_6 : World) =>
 ∃ (x_10 : Int),
 ∃ (x_11 : Value),
 e =
 Ending.returned
 (Value.tuple
 #[Value.int IntKind.i64 x_10, x_11]) ∧
 KeptL [n_4, n_3] w'_5 w'_6 ∧
 I
 [Value.int IntKind.i64
 (IntKind.i64.wrap (x + 1))]
 w'_6 ∧
 m
 [Value.int IntKind.i64
 (IntKind.i64.wrap (x + 1))]
 w'_6 <
 m [Value.int IntKind.i64 x] w')
 (∀ (W : World),
 Loc w.heap.size
 [Blk.mk n_4 9
 [Value.string x_1, Value.string x_5, Value.string (ByteArray.mk #[121])] 2,
 Blk.mk n_3 94 [Value.int IntKind.i64 x_3, Value.bool x_4, Value.slice p n_2 c]
 0]
 w'_1 W →
 CallsS Tryz.prog 49
 #[Value.slice (some (Addr.mk n_4 0 none)) 3 3, Value.string (ByteArray.mk #[32])]
 W fun (e : Ending) (w'_2 : World) =>
 ∃ (x_6 : ByteArray),
 e = Ending.returned (Value.string x_6) ∧
 KeptL [n_4, n_3] W w'_2 ∧
 CallsS Tryz.prog 48
 #[Value.pointer (some (Addr.mk n 0 none)), Value.string x_6] w'_2
 fun (e : Ending) (w'_3 : World) =>
 ∃ (x_7 : Int),
 ∃ (x_8 : Value),
 e = Ending.returned (Value.tuple #[Value.int IntKind.i64 x_7, x_8]) ∧
 KeptL [n_4, n_3] w'_2 w'_3 ∧
 CallsS Tryz.prog 48
 #[Value.pointer (some (Addr.mk n 0 none)),
 Value.string (ByteArray.mk #[10])]
 w'_3 fun (e : Ending) (w'_4 : World) =>
 ∃ (x_9 : Int),
 ∃ (x_10 : Value),
 e = Ending.returned (Value.tuple #[Value.int IntKind.i64 x_9, x_10]) ∧
 KeptL [n_4, n_3] w'_3 w'_4 ∧
 I [Value.int IntKind.i64 (IntKind.i64.wrap (x + 1))] w'_4 ∧
 m [Value.int IntKind.i64 (IntKind.i64.wrap (x + 1))] w'_4 <
 m [Value.int IntKind.i64 x] w')))
 (CallsS Tryz.prog 50 #[Value.pointer (some (Addr.mk n 0 none))] w' fun (e : Ending) (w'_1 : World) =>
 ∃ (x : ByteArray),
 e = Ending.returned (Value.string x) ∧ KeptL [] w' w'_1 ∧ R (Ending.returned (Value.string x)) w'_1)
theorem vc_nprint (w : World) (R : Ending → World → Prop) (h : VC_nprint w R) : Calls Tryz.prog 17 ([Value.pointer
    none] : List Value).toArray w R := by
  have e : execR2 { P := Tryz.prog, loops := [(3, [(11, Ck.int IntKind.i64)])], pur := pur1, tails := [], joins := [], boxes := [] } Tryz.f17.results.toList R (Tryz.f17.body.getD .skip) (initF [Value.pointer
    none] (Tryz.f17.ntmps - ([Value.pointer none] : List Value).length)) w = VC_nprint w R := by kernel_rfl
  have hb : Tryz.f17.body = some (Tryz.f17.body.getD .skip) := by kernel_rfl
  exact calls_of_exec2' (P := Tryz.prog) (fn := Tryz.f17) (c := Tryz.f17.body.getD .skip) (args := [Value.pointer
    none]) (w := w) (R := R) pur1_ok Tryz.func17 hb e h

def VC_nclone (w : World) (R : Ending → World → Prop) : Prop :=
 R (Ending.returned (Value.pointer none)) w
theorem vc_nclone (w : World) (R : Ending → World → Prop) (h : VC_nclone w R) : Calls Tryz.prog 35 ([Value.pointer
    none] : List Value).toArray w R := by
  have e : execR2 { P := Tryz.prog, loops := [(5, [])], pur := pur1, tails := [(8, 6)], joins := [], boxes := [], rngs := [(13, 97)] } Tryz.f35.results.toList R (Tryz.f35.body.getD .skip) (initF [Value.pointer
    none] (Tryz.f35.ntmps - ([Value.pointer none] : List Value).length)) w = VC_nclone w R := by kernel_rfl
  have hb : Tryz.f35.body = some (Tryz.f35.body.getD .skip) := by kernel_rfl
  exact calls_of_exec2' (P := Tryz.prog) (fn := Tryz.f35) (c := Tryz.f35.body.getD .skip) (args := [Value.pointer
    none]) (w := w) (R := R) pur1_ok Tryz.func35 hb e h

def VC_neq00 (w : World) (R : Ending → World → Prop) : Prop :=
 R (Ending.returned (Value.bool ((none : Option Addr).isNone && (none : Option Addr).isNone))) w
theorem vc_neq00 (w : World) (R : Ending → World → Prop) (h : VC_neq00 w R) : Calls Tryz.prog 24 ([Value.pointer none,
  Value.pointer none] : List Value).toArray w R := by
  have e : execR2 { P := Tryz.prog, loops := [(6, [])], pur := pur1, tails := [], joins := [], boxes := [], rngs := [(36, 97)] } Tryz.f24.results.toList R (Tryz.f24.body.getD .skip) (initF [Value.pointer
    none,
  Value.pointer
    none] (Tryz.f24.ntmps - ([Value.pointer none,
  Value.pointer none] : List Value).length)) w = VC_neq00 w R := by kernel_rfl
  have hb : Tryz.f24.body = some (Tryz.f24.body.getD .skip) := by kernel_rfl
  exact calls_of_exec2' (P := Tryz.prog) (fn := Tryz.f24) (c := Tryz.f24.body.getD .skip) (args := [Value.pointer none,
  Value.pointer none]) (w := w) (R := R) pur1_ok Tryz.func24 hb e h

def VC_neq01 (b : Nat) (w : World) (R : Ending → World → Prop) : Prop :=
 R (Ending.returned (Value.bool ((none : Option Addr).isNone && (some (Addr.mk b 0 none)).isNone))) w
theorem vc_neq01 (b : Nat) (w : World) (R : Ending → World → Prop) (h : VC_neq01 b w R) : Calls Tryz.prog 24 ([Value.pointer
    none,
  Value.pointer (some { block := b, off := 0 })] : List Value).toArray w R := by
  have e : execR2 { P := Tryz.prog, loops := [(6, [])], pur := pur1, tails := [], joins := [], boxes := [], rngs := [(36, 97)] } Tryz.f24.results.toList R (Tryz.f24.body.getD .skip) (initF [Value.pointer
    none,
  Value.pointer
    (some
      { block := b,
        off :=
          0 })] (Tryz.f24.ntmps - ([Value.pointer none,
  Value.pointer (some { block := b, off := 0 })] : List Value).length)) w = VC_neq01 b w R := by kernel_rfl
  have hb : Tryz.f24.body = some (Tryz.f24.body.getD .skip) := by kernel_rfl
  exact calls_of_exec2' (P := Tryz.prog) (fn := Tryz.f24) (c := Tryz.f24.body.getD .skip) (args := [Value.pointer none,
  Value.pointer (some { block := b, off := 0 })]) (w := w) (R := R) pur1_ok Tryz.func24 hb e h

def VC_neq10 (b : Nat) (w : World) (R : Ending → World → Prop) : Prop :=
 R (Ending.returned (Value.bool ((some (Addr.mk b 0 none)).isNone && (none : Option Addr).isNone))) w
theorem vc_neq10 (b : Nat) (w : World) (R : Ending → World → Prop) (h : VC_neq10 b w R) : Calls Tryz.prog 24 ([Value.pointer
    (some { block := b, off := 0 }),
  Value.pointer none] : List Value).toArray w R := by
  have e : execR2 { P := Tryz.prog, loops := [(6, [])], pur := pur1, tails := [], joins := [], boxes := [], rngs := [(36, 97)] } Tryz.f24.results.toList R (Tryz.f24.body.getD .skip) (initF [Value.pointer
    (some { block := b, off := 0 }),
  Value.pointer
    none] (Tryz.f24.ntmps - ([Value.pointer (some { block := b, off := 0 }),
  Value.pointer none] : List Value).length)) w = VC_neq10 b w R := by kernel_rfl
  have hb : Tryz.f24.body = some (Tryz.f24.body.getD .skip) := by kernel_rfl
  exact calls_of_exec2' (P := Tryz.prog) (fn := Tryz.f24) (c := Tryz.f24.body.getD .skip) (args := [Value.pointer
    (some { block := b, off := 0 }),
  Value.pointer none]) (w := w) (R := R) pur1_ok Tryz.func24 hb e h

end Go.Proofs.YtgmmoghagpmpfaaGreatDoor

/- The formulas of functions by the symbolic evaluator, and that each gives the call's contract. Written by a program (gen.py). No condition. -/
namespace Go.Proofs.YtgmmoghagpmpfaaGreatDoor
set_option maxRecDepth 100000
set_option linter.unusedVariables false

def VC_aclnil (s : ByteArray) (x : Int) (w : World) (R : Ending → World → Prop) : Prop :=
 ∀ (n : Nat) (W : World),
 Loc w.heap.size [Blk.mk n 9 [Value.string s] 2] w W →
 CallsS Tryz.prog 27 #[Value.pointer none, Value.slice (some (Addr.mk n 0 none)) 1 1] W
 fun (e : Ending) (w' : World) =>
 ∃ (p : Option Addr),
 ∃ (n : Nat),
 ∃ (c : Nat),
 ∃ (x_1 : Int),
 e = Ending.returned (Value.tuple #[Value.slice p n c, Value.int IntKind.i64 x_1]) ∧
 KeptL [] W w' ∧
 CallsS Tryz.prog 16 #[Value.pointer none, Value.string s] w' fun (e : Ending) (w'_1 : World) =>
 ∃ (x_2 : ByteArray),
 ∃ (x_3 : Int),
 ∃ (x_4 : Int),
 ∃ (x_5 : Int),
 ∃ (x_6 : Bool),
 ∃ (x_7 : Int),
 e =
 Ending.returned
 (Value.tuple
 #[Value.agg
 #[Value.string x_2, Value.int IntKind.i64 x_3, Value.int IntKind.i64 x_4,
 Value.int IntKind.i64 x_5, Value.bool x_6],
 Value.int IntKind.i64 x_7]) ∧
 KeptL [] w' w'_1 ∧
 ∀ (n : Nat) (W : World),
 Loc w.heap.size
 [Blk.mk n 31
 [Value.string x_2, Value.int IntKind.i64 x_3, Value.int IntKind.i64 x_4,
 Value.int IntKind.i64 x_5, Value.bool x_6]
 (wrM 2)]
 w'_1 W →
 CallsS Tryz.prog 34
 #[Value.pointer none, Value.string s, Value.int IntKind.i64 x, Value.int IntKind.i64 x] W
 fun (e : Ending) (w' : World) =>
 ∃ (p : Option Addr),
 ∃ (n_1 : Nat),
 ∃ (c : Nat),
 ∃ (x_8 : Int),
 e = Ending.returned (Value.tuple #[Value.slice p n_1 c, Value.int IntKind.i64 x_8]) ∧
 KeptL [n] W w' ∧
 CallsS Tryz.prog 36
 #[Value.pointer none, Value.agg #[Value.string s, Value.int IntKind.i64 x], Value.bool true]
 w' fun (e : Ending) (w'_2 : World) =>
 ∃ (x_9 : Int),
 ∃ (x_10 : Int),
 e =
 Ending.returned (Value.tuple #[Value.int IntKind.i64 x_9, Value.int IntKind.i64 x_10]) ∧
 KeptL [n] w' w'_2 ∧
 CallsS Tryz.prog 15 #[] w'_2 fun (e : Ending) (w' : World) =>
 ∃ (x_11 : Bool),
 e = Ending.returned (Value.bool x_11) ∧
 KeptL [n] w'_2 w' ∧
 bsp x_11
 (CallsS Tryz.prog 31 #[Value.pointer none, Value.string s] w'
 fun (e : Ending) (w'_3 : World) =>
 ∃ (x_12 : Int),
 e = Ending.returned (Value.int IntKind.i64 x_12) ∧
 KeptL [n] w' w'_3 ∧
 bsp (true && x_12 == 1)
 (CallsS Tryz.prog 26 #[Value.pointer none, Value.string s] w'_3
 fun (e : Ending) (w' : World) =>
 ∃ (x_13 : Int),
 e = Ending.returned (Value.int IntKind.i64 x_13) ∧
 KeptL [n] w'_3 w' ∧
 bsp
 (true && x_13 == 1 && x_1 == 1 && x_7 == 1 && x_8 == 1 && x_10 == 1 &&
 (↑n_1 : Int) == 0 &&
 x_9 == 0)
 (CallsS Tryz.prog 33
 #[Value.pointer none,
 Value.agg #[Value.string s, Value.int IntKind.i64 x]]
 w' fun (e : Ending) (w'_4 : World) =>
 ∃ (x_14 : Int),
 e = Ending.returned (Value.int IntKind.i64 x_14) ∧
 KeptL [n] w' w'_4 ∧
 bsp (true && x_14 == 1)
 (CallsS Tryz.prog 30
 #[Value.pointer none,
 Value.agg #[Value.string s, Value.int IntKind.i64 x]]
 w'_4 fun (e : Ending) (w' : World) =>
 ∃ (x : Bool),
 e = Ending.returned (Value.bool x) ∧
 KeptL [n] w'_4 w' ∧
 bsp (true && !x)
 (CallsS Tryz.prog 18 #[Value.pointer none] w'
 fun (e : Ending) (w'_5 : World) =>
 ∃ (p : Option Addr),
 ∃ (n_2 : Nat),
 ∃ (c : Nat),
 e = Ending.returned (Value.slice p n_2 c) ∧
 KeptL [n] w' w'_5 ∧
 bsp (true && (↑n_2 : Int) == 0)
 (CallsS Tryz.prog 17 #[Value.pointer none] w'_5
 fun (e : Ending) (w' : World) =>
 ∃ (x : ByteArray),
 e = Ending.returned (Value.string x) ∧
 KeptL [n] w'_5 w' ∧
 bsp (true && x.toList == [])
 (CallsS Tryz.prog 35 #[Value.pointer none] w'
 fun (e : Ending) (w'_6 : World) =>
 ∃ (x : Option Addr),
 e = Ending.returned (Value.pointer x) ∧
 KeptL [n] w' w'_6 ∧
 bsp (true && x.isNone)
 (CallsS Tryz.prog 24
 #[Value.pointer none, Value.pointer none]
 w'_6 fun (e : Ending) (w' : World) =>
 ∃ (x : Bool),
 e = Ending.returned (Value.bool x) ∧
 KeptL [n] w'_6 w' ∧
 bsp (true && x)
 (CallsS Tryz.prog 19 #[] w'
 fun (e : Ending) (w'_7 : World) =>
 ∃ (x : Option Addr),
 e = Ending.returned (Value.pointer x) ∧
 KeptL [n] w' w'_7 ∧
 CallsS Tryz.prog 24
 #[Value.pointer none,
 Value.pointer x]
 w'_7
 fun (e : Ending) (w' : World) =>
 ∃ (x : Bool),
 e =
 Ending.returned (Value.bool x) ∧
 KeptL [n] w'_7 w' ∧
 bsp (true && !x)
 (CallsS Tryz.prog 19 #[] w'
 fun (e : Ending)
 (w'_8 : World) =>
 ∃ (x : Option Addr),
 e =
 Ending.returned
 (Value.pointer x) ∧
 KeptL [n] w' w'_8 ∧
 CallsS Tryz.prog 24
 #[Value.pointer x,
 Value.pointer none]
 w'_8
 fun (e : Ending)
 (w' : World) =>
 ∃ (x : Bool),
 e =
 Ending.returned
 (Value.bool x) ∧
 KeptL [n] w'_8 w' ∧
 R
 (Ending.returned
 (Value.bool
 (true && !x)))
 w')
 (KeptL [n] w' w' ∧
 KeptL [n] w' w' ∧
 R
 (Ending.returned
 (Value.bool false))
 w'))
 (KeptL [n] w' w' ∧
 KeptL [n] w' w' ∧
 KeptL [n] w' w' ∧
 KeptL [n] w' w' ∧
 R
 (Ending.returned (Value.bool false))
 w'))
 (KeptL [n] w'_6 w'_6 ∧
 KeptL [n] w'_6 w'_6 ∧
 KeptL [n] w'_6 w'_6 ∧
 KeptL [n] w'_6 w'_6 ∧
 KeptL [n] w'_6 w'_6 ∧
 R (Ending.returned (Value.bool false))
 w'_6))
 (KeptL [n] w' w' ∧
 KeptL [n] w' w' ∧
 KeptL [n] w' w' ∧
 KeptL [n] w' w' ∧
 KeptL [n] w' w' ∧
 KeptL [n] w' w' ∧
 R (Ending.returned (Value.bool false)) w'))
 (KeptL [n] w'_5 w'_5 ∧
 KeptL [n] w'_5 w'_5 ∧
 KeptL [n] w'_5 w'_5 ∧
 KeptL [n] w'_5 w'_5 ∧
 KeptL [n] w'_5 w'_5 ∧
 KeptL [n] w'_5 w'_5 ∧
 KeptL [n] w'_5 w'_5 ∧
 R (Ending.returned (Value.bool false)) w'_5))
 (KeptL [n] w' w' ∧
 KeptL [n] w' w' ∧
 KeptL [n] w' w' ∧
 KeptL [n] w' w' ∧
 KeptL [n] w' w' ∧
 KeptL [n] w' w' ∧
 KeptL [n] w' w' ∧
 KeptL [n] w' w' ∧
 R (Ending.returned (Value.bool false)) w'))
 (KeptL [n] w'_4 w'_4 ∧
 KeptL [n] w'_4 w'_4 ∧
 KeptL [n] w'_4 w'_4 ∧
 KeptL [n] w'_4 w'_4 ∧
 KeptL [n] w'_4 w'_4 ∧
 KeptL [n] w'_4 w'_4 ∧
 KeptL [n] w'_4 w'_4 ∧
 KeptL [n] w'_4 w'_4 ∧
 KeptL [n] w'_4 w'_4 ∧
 R (Ending.returned (Value.bool false)) w'_4))
 (KeptL [n] w' w' ∧
 KeptL [n] w' w' ∧
 KeptL [n] w' w' ∧
 KeptL [n] w' w' ∧
 KeptL [n] w' w' ∧
 KeptL [n] w' w' ∧
 KeptL [n] w' w' ∧
 KeptL [n] w' w' ∧
 KeptL [n] w' w' ∧
 KeptL [n] w' w' ∧ R (Ending.returned (Value.bool false)) w'))
 (KeptL [n] w'_3 w'_3 ∧
 KeptL [n] w'_3 w'_3 ∧
 KeptL [n] w'_3 w'_3 ∧
 KeptL [n] w'_3 w'_3 ∧
 KeptL [n] w'_3 w'_3 ∧
 KeptL [n] w'_3 w'_3 ∧
 KeptL [n] w'_3 w'_3 ∧
 KeptL [n] w'_3 w'_3 ∧
 KeptL [n] w'_3 w'_3 ∧
 KeptL [n] w'_3 w'_3 ∧
 KeptL [n] w'_3 w'_3 ∧ R (Ending.returned (Value.bool false)) w'_3))
 (KeptL [n] w' w' ∧
 KeptL [n] w' w' ∧
 KeptL [n] w' w' ∧
 KeptL [n] w' w' ∧
 KeptL [n] w' w' ∧
 KeptL [n] w' w' ∧
 KeptL [n] w' w' ∧
 KeptL [n] w' w' ∧
 KeptL [n] w' w' ∧
 KeptL [n] w' w' ∧
 KeptL [n] w' w' ∧
 KeptL [n] w' w' ∧ R (Ending.returned (Value.bool false)) w')
theorem vc_aclnil (s : ByteArray) (x : Int) (w : World) (R : Ending → World → Prop) (h : VC_aclnil s x w R) : Calls Tryz.prog 12 ([Value.string
    s,
  Value.int IntKind.i64 x] : List Value).toArray w R := by
  have e : execR2 { P := Tryz.prog, loops := [], pur := pur1, tails := [], joins := [], boxes := [] } Tryz.f12.results.toList R (Tryz.f12.body.getD .skip) (initF [Value.string
    s,
  Value.int IntKind.i64
    x] (Tryz.f12.ntmps - ([Value.string s,
  Value.int IntKind.i64 x] : List Value).length)) w = VC_aclnil s x w R := by kernel_rfl
  have hb : Tryz.f12.body = some (Tryz.f12.body.getD .skip) := by kernel_rfl
  exact calls_of_exec2' (P := Tryz.prog) (fn := Tryz.f12) (c := Tryz.f12.body.getD .skip) (args := [Value.string s,
  Value.int IntKind.i64 x]) (w := w) (R := R) pur1_ok Tryz.func12 hb e h

end Go.Proofs.YtgmmoghagpmpfaaGreatDoor

/- Chapter 27: a nil table; the law ActiveNil returns true. The library's variable MaxLen holds a number, its table of powers of ten reads as laid. -/
namespace Go.Proofs.YtgmmoghagpmpfaaGreatDoor
open Go.RowKit Go.Maps Go.Sort

theorem nfind_any (s : ByteArray) (w : World) : Calls Tryz.prog 45 #[.pointer none, .string s] w fun e w' => e = .returned (.tuple #[gxV gxz, .int .i64 1]) ∧ K0 w w' :=
  vc_nfind s w _ (fun _ _ hW => ⟨rfl, hW.kk rfl⟩)
theorem nassign_any (p : Option Addr) (n c : Nat) (w : World) : Calls Tryz.prog 27 #[.pointer none, .slice p n c] w fun e w' => e = .returned (.tuple #[.slice none 0 0, .int .i64 1]) ∧ K0 w w' :=
  vc_nassign p n c w _ ⟨rfl, .refl _ _⟩
theorem nget_any (s : ByteArray) (w : World) : Calls Tryz.prog 16 #[.pointer none, .string s] w fun e w' => e = .returned (.tuple #[.agg #[.string ⟨#[]⟩, .int .i64 0, .int .i64 0, .int .i64 0, .bool false], .int .i64 1]) ∧ K0 w w' :=
  vc_nget s w _ (fun _ W hW => ⟨(nfind_any s W).mono fun e w1 ⟨he, k1⟩ => ⟨_, _, _, _, _, _, he, .of_k0 k1, fun _ => bsp_intro (fun _ W2 hW2 => ⟨rfl, hW2.k0 ((hW.kk rfl : K0 w W).trans k1)⟩) (fun h => by cases h)⟩⟩)
theorem nnums_any (s : ByteArray) (u v : Int) (w : World) : Calls Tryz.prog 34 #[.pointer none, .string s, .int .i64 u, .int .i64 v] w fun e w' => e = .returned (.tuple #[.slice none 0 0, .int .i64 1]) ∧ K0 w w' :=
  vc_nnums s u v w _ ⟨(nfind_any s w).mono fun e w1 ⟨he, k1⟩ => ⟨_, _, _, _, _, _, he, .of_k0 k1, fun _ => bsp_intro (fun _ W2 hW2 => ⟨rfl, hW2.k0 k1⟩) (fun h => by cases h)⟩⟩
theorem nnbr_any (s : ByteArray) (v : Int) (fw : Bool) (w : World) : Calls Tryz.prog 36 #[.pointer none, .agg #[.string s, .int .i64 v], .bool fw] w fun e w' => e = .returned (.tuple #[.int .i64 0, .int .i64 1]) ∧ K0 w w' :=
  vc_nnbr s v fw w _ (fun _ W hW => ⟨(nfind_any s W).mono fun e w1 ⟨he, k1⟩ => ⟨_, _, _, _, _, _, he, .of_k0 k1, fun _ => bsp_intro (fun _ W2 hW2 => ⟨rfl, hW2.k0 ((hW.kk rfl : K0 w W).trans k1)⟩) (fun h => by cases h)⟩⟩)
theorem nopen_any (s : ByteArray) (w : World) : Calls Tryz.prog 31 #[.pointer none, .string s] w fun e w' => e = .returned (.int .i64 1) ∧ K0 w w' := vc_nopen s w _ ⟨rfl, .refl _ _⟩
theorem nclose_any (s : ByteArray) (w : World) : Calls Tryz.prog 26 #[.pointer none, .string s] w fun e w' => e = .returned (.int .i64 1) ∧ K0 w w' :=
  vc_nclose s w _ ⟨(nfind_any s w).mono fun e w1 ⟨he, k1⟩ => ⟨_, _, _, _, _, _, he, .of_k0 k1, fun _ => bsp_intro (fun _ W2 hW2 => ⟨rfl, hW2.k0 k1⟩) (fun h => by cases h)⟩⟩
theorem nremove_any (s : ByteArray) (v : Int) (w : World) : Calls Tryz.prog 33 #[.pointer none, .agg #[.string s, .int .i64 v]] w fun e w' => e = .returned (.int .i64 1) ∧ K0 w w' :=
  vc_nremove s v w _ (fun _ W hW => ⟨(nfind_any s W).mono fun e w1 ⟨he, k1⟩ => ⟨_, _, _, _, _, _, he, .of_k0 k1, fun _ => bsp_intro (fun _ W2 hW2 => ⟨rfl, hW2.k0 ((hW.kk rfl : K0 w W).trans k1)⟩) (fun h => by cases h)⟩⟩)
theorem nhas_any (s : ByteArray) (v : Int) (w : World) : Calls Tryz.prog 30 #[.pointer none, .agg #[.string s, .int .i64 v]] w fun e w' => e = .returned (.bool false) ∧ K0 w w' :=
  vc_nhas s v w _ (fun _ W hW => ⟨(nfind_any s W).mono fun e w1 ⟨he, k1⟩ => ⟨_, _, _, _, _, _, he, .of_k0 k1, fun _ => ⟨0, gimp_intro (fun h => by cases h), fun W2 hW2 => bsp_intro (fun h => by cases h) (fun _ => ⟨.refl _ _, rfl, hW2.k0 ((hW.kk rfl : K0 w W).trans k1)⟩)⟩⟩⟩)
theorem ngroups_any (w : World) : Calls Tryz.prog 18 #[.pointer none] w fun e w' => e = .returned (.slice none 0 0) ∧ K0 w w' := vc_ngroups w _ ⟨rfl, .refl _ _⟩
theorem nprint_any (w : World) : Calls Tryz.prog 17 #[.pointer none] w fun e w' => e = .returned (.string ⟨#[]⟩) ∧ K0 w w' := by
  refine vc_nprint w _ (fun n W hW => ?_)
  have kW : K0 w W := hW.kk rfl
  have gn : w.heap.size ≤ n := hW.fresh 0 rfl rfl
  refine ⟨(ngroups_any W).mono fun e w1 ⟨he, k1⟩ => ⟨_, _, _, he, .of_k0 k1, fun vs w' => vs = [.int .i64 0] ∧ Bld n ⟨#[]⟩ w' ∧ K0 w w', fun _ _ => 0, ⟨rfl, (Bld.new (hW.cells 0 rfl)).k0 k1, kW.trans k1⟩, ?_⟩⟩
  rintro x w2 ⟨hv, hB, k2⟩
  simp only [List.cons.injEq, Value.int.injEq, true_and, and_true] at hv
  subst hv
  exact bsp_intro (fun h => by cases h) (fun _ => ⟨hB.text.mono fun e w5 ⟨he, k5⟩ => ⟨_, he, ⟨k5.size, fun _ hm => by cases hm⟩, rfl, k2.fresh k5 (fun j hj e => by omega)⟩⟩)
theorem nclone_any (w : World) : Calls Tryz.prog 35 #[.pointer none] w fun e w' => e = .returned (.pointer none) ∧ K0 w w' := vc_nclone w _ ⟨rfl, .refl _ _⟩
set_option maxHeartbeats 2000000 in
theorem lacnil_any (s : ByteArray) (_hs : s.size ≤ 4611686018427387904) (x : Int) (_hx : I64 x) (w : World) (hG : GW w) (hT : GT w) : Calls Tryz.prog 12 #[.string s, .int .i64 x] w fun e w' => e = .returned (.bool true) ∧ K0 w w' := by
  refine vc_aclnil s x w _ (fun n W hW => ?_)
  have kW : K0 w W := hW.kk rfl
  refine ⟨(nassign_any _ _ _ W).mono fun e w1 ⟨he, k1⟩ => ⟨_, _, _, _, he, .of_k0 k1, ?_⟩⟩
  refine ⟨(nget_any s w1).mono fun e w2 ⟨he, k2⟩ => ⟨_, _, _, _, _, _, he, .of_k0 k2, fun n2 W2 hW2 => ?_⟩⟩
  have k02 : K0 w W2 := ((kW.trans k1).trans k2).trans (hW2.kk rfl)
  refine ⟨(nnums_any s x x W2).mono fun e w3 ⟨he, k3⟩ => ⟨_, _, _, _, he, .of_k0 k3, ?_⟩⟩
  refine ⟨(nnbr_any s x true w3).mono fun e w4 ⟨he, k4⟩ => ⟨_, _, he, .of_k0 k4, ?_⟩⟩
  have k04 := (k02.trans k3).trans k4
  refine ⟨(acknown_any w4 (gk0 hG k04) (hT.k0 k04)).mono fun e w5 ⟨he, k5⟩ => ⟨true, he, .of_k0 k5, bsp_intro (fun _ => ?_) (fun h => by cases h)⟩⟩
  refine ⟨(nopen_any s w5).mono fun e w6 ⟨he, k6⟩ => ⟨_, he, .of_k0 k6, bsp_intro (fun _ => ?_) (fun h => by cases h)⟩⟩
  refine ⟨(nclose_any s w6).mono fun e w7 ⟨he, k7⟩ => ⟨_, he, .of_k0 k7, bsp_intro (fun _ => ?_) (fun h => by cases h)⟩⟩
  refine ⟨(nremove_any s x w7).mono fun e w8 ⟨he, k8⟩ => ⟨_, he, .of_k0 k8, bsp_intro (fun _ => ?_) (fun h => by cases h)⟩⟩
  refine ⟨(nhas_any s x w8).mono fun e w9 ⟨he, k9⟩ => ⟨_, he, .of_k0 k9, bsp_intro (fun _ => ?_) (fun h => by cases h)⟩⟩
  refine ⟨(ngroups_any w9).mono fun e w10 ⟨he, k10⟩ => ⟨_, _, _, he, .of_k0 k10, bsp_intro (fun _ => ?_) (fun h => by cases h)⟩⟩
  refine ⟨(nprint_any w10).mono fun e w11 ⟨he, k11⟩ => ⟨_, he, .of_k0 k11, bsp_intro (fun _ => ?_) (fun h => by rw [emB] at h; cases h)⟩⟩
  refine ⟨(nclone_any w11).mono fun e w12 ⟨he, k12⟩ => ⟨_, he, .of_k0 k12, bsp_intro (fun _ => ?_) (fun h => by cases h)⟩⟩
  have k012 := (((((((k04.trans k5).trans k6).trans k7).trans k8).trans k9).trans k10).trans k11).trans k12
  refine ⟨vc_neq00 w12 _ ⟨true, rfl, .refl _ _, bsp_intro (fun _ => ?_) (fun h => by cases h)⟩⟩
  refine ⟨(acnew_any w12 (gw_lt (gk0 hG k012))).mono fun e w13 ⟨⟨b, mb, he, _⟩, k13⟩ => ⟨_, he, .of_k0 k13, ?_⟩⟩
  refine ⟨vc_neq01 b w13 _ ⟨false, rfl, .refl _ _, bsp_intro (fun _ => ?_) (fun h => by cases h)⟩⟩
  have k013 := k012.trans k13
  refine ⟨(acnew_any w13 (gw_lt (gk0 hG k013))).mono fun e w14 ⟨⟨b2, mb2, he, _⟩, k14⟩ => ⟨_, he, .of_k0 k14, ?_⟩⟩
  exact ⟨vc_neq10 b2 w14 _ ⟨false, rfl, .refl _ _, rfl, k013.trans k14⟩⟩

end Go.Proofs.YtgmmoghagpmpfaaGreatDoor
