/- The formulas of functions by the symbolic evaluator, and that each gives the call's contract. Written by a program (gen.py). No condition. -/
import Derived.Test.YtgmmoghagpmpfaaGreatDoorProg
import Derived.Test.YtgmmoghagpmpfaaGreatDoorZ02
import Derived.Test.YtgmmoghagpmpfaaGreatDoorZ05
import Derived.Test.YtgmmoghagpmpfaaGreatDoorZ04
import Derived.KernelRfl
import Derived.Test.YtgmmoghagpmpfaaGreatDoorZ08
import Derived.Test.YtgmmoghagpmpfaaGreatDoorZ07
namespace Go.Proofs.YtgmmoghagpmpfaaGreatDoor
set_option maxRecDepth 100000
set_option linter.unusedVariables false

def VC_acnew (w : World) (R : Ending → World → Prop) : Prop :=
 ∀ (n : Nat) (w1 : World),
 NewB w (Obj.map #[] 0) n w1 →
 KeptL [] w w1 ∧
 ∀ (n_1 : Nat) (W : World),
 Loc w.heap.size [Blk.mk n_1 99 [Value.map (some n)] 2] w1 W →
 R (Ending.returned (Value.pointer (some (Addr.mk n_1 0 none)))) W
theorem vc_acnew (w : World) (R : Ending → World → Prop) (h : VC_acnew w R) : Calls Tryz.prog 19 ([] : List Value).toArray w R := by
  have e : execR2 { P := Tryz.prog, loops := [], pur := pur1, tails := [], joins := [], boxes := [] } Tryz.f19.results.toList R (Tryz.f19.body.getD .skip) (initF [] (Tryz.f19.ntmps - ([] : List Value).length)) w = VC_acnew w R := by kernel_rfl
  have hb : Tryz.f19.body = some (Tryz.f19.body.getD .skip) := by kernel_rfl
  exact calls_of_exec2' (P := Tryz.prog) (fn := Tryz.f19) (c := Tryz.f19.body.getD .skip) (args := []) (w := w) (R := R) pur1_ok Tryz.func19 hb e h

def VC_acfind (b : Nat) (s : ByteArray) (w : World) (R : Ending → World → Prop) : Prop :=
 ∀ (n : Nat),
 ∃ (x : Option Nat),
 (∀ (W : World),
 Loc w.heap.size [Blk.mk n 94 [Value.int IntKind.i64 0, Value.bool false, Value.slice none 0 0] 2] w W →
 W.cell? (Addr.mk b 0 none) = some (Value.map x)) ∧
 ∃ (x_1 : Int),
 ∃ (x_2 : Bool),
 ∃ (p : Option Addr),
 ∃ (n_1 : Nat),
 ∃ (c : Nat),
 ∃ (b : Bool),
 (∀ (W : World),
 Loc w.heap.size [Blk.mk n 94 [Value.int IntKind.i64 0, Value.bool false, Value.slice none 0 0] 2] w W →
 LookP Tryz.prog 97 (Value.map x) (Value.string s) true
 (Value.tuple #[Value.agg #[Value.int IntKind.i64 x_1, Value.bool x_2, Value.slice p n_1 c], Value.bool b])
 W) ∧
 ∀ (n_2 : Nat),
 bsp (!b)
 (∀ (W : World),
 Loc w.heap.size
 [Blk.mk n_2 94 [Value.int IntKind.i64 x_1, Value.bool x_2, Value.slice p n_1 c] (wrM 2),
 Blk.mk n 94 [Value.int IntKind.i64 0, Value.bool false, Value.slice none 0 0] (wrM 2)]
 w W →
 R
 (Ending.returned
 (Value.tuple
 #[Value.agg #[Value.int IntKind.i64 0, Value.bool false, Value.slice none 0 0],
 Value.int IntKind.i64 8]))
 W)
 (∀ (W : World),
 Loc w.heap.size
 [Blk.mk n_2 94 [Value.int IntKind.i64 x_1, Value.bool x_2, Value.slice p n_1 c] (wrM 2),
 Blk.mk n 94 [Value.int IntKind.i64 x_1, Value.bool x_2, Value.slice p n_1 c] (wrM 2)]
 w W →
 R
 (Ending.returned
 (Value.tuple
 #[Value.agg #[Value.int IntKind.i64 x_1, Value.bool x_2, Value.slice p n_1 c],
 Value.int IntKind.i64 0]))
 W)
theorem vc_acfind (b : Nat) (s : ByteArray) (w : World) (R : Ending → World → Prop) (h : VC_acfind b s w R) : Calls Tryz.prog 45 ([Value.pointer
    (some { block := b, off := 0 }),
  Value.string s] : List Value).toArray w R := by
  have e : execR2 { P := Tryz.prog, loops := [], pur := pur1, tails := [], joins := [], boxes := [] } Tryz.f45.results.toList R (Tryz.f45.body.getD .skip) (initF [Value.pointer
    (some { block := b, off := 0 }),
  Value.string
    s] (Tryz.f45.ntmps - ([Value.pointer (some { block := b, off := 0 }),
  Value.string s] : List Value).length)) w = VC_acfind b s w R := by kernel_rfl
  have hb : Tryz.f45.body = some (Tryz.f45.body.getD .skip) := by kernel_rfl
  exact calls_of_exec2' (P := Tryz.prog) (fn := Tryz.f45) (c := Tryz.f45.body.getD .skip) (args := [Value.pointer
    (some { block := b, off := 0 }),
  Value.string s]) (w := w) (R := R) pur1_ok Tryz.func45 hb e h

def VC_acopen (b : Nat) (s : ByteArray) (w : World) (R : Ending → World → Prop) : Prop :=
 CallsS Tryz.prog 64 #[Value.string s] w fun (e : Ending) (w' : World) =>
 ∃ (x : Int),
 e = Ending.returned (Value.int IntKind.i64 x) ∧
 KeptL [] w w' ∧
 bsp (x != 0) (R (Ending.returned (Value.int IntKind.i64 x)) w')
 (∃ (x : Option Nat),
 w'.cell? (Addr.mk b 0 none) = some (Value.map x) ∧
 ∃ (x_1 : Int),
 ∃ (x_2 : Bool),
 ∃ (p : Option Addr),
 ∃ (n : Nat),
 ∃ (c : Nat),
 ∃ (b_1 : Bool),
 LookP Tryz.prog 97 (Value.map x) (Value.string s) true
 (Value.tuple
 #[Value.agg #[Value.int IntKind.i64 x_1, Value.bool x_2, Value.slice p n c], Value.bool b_1])
 w' ∧
 ∀ (n_1 : Nat),
 ∃ (x : Bool),
 gimp b_1
 (∀ (W : World),
 Loc w.heap.size
 [Blk.mk n_1 94 [Value.int IntKind.i64 x_1, Value.bool x_2, Value.slice p n c] (wrM 2)] w' W →
 W.cell? (Addr.mk n_1 (0 + 1) none) = some (Value.bool x)) ∧
 bsp (b_1 && !x)
 (∀ (W : World),
 Loc w.heap.size
 [Blk.mk n_1 94 [Value.int IntKind.i64 x_1, Value.bool x_2, Value.slice p n c] (wrM 2)] w' W →
 R (Ending.returned (Value.int IntKind.i64 7)) W)
 (∃ (x : Option Nat),
 gimp (!b_1)
 (∀ (W : World),
 Loc w.heap.size
 [Blk.mk n_1 94 [Value.int IntKind.i64 x_1, Value.bool x_2, Value.slice p n c] (wrM 2)] w' W →
 W.cell? (Addr.mk b 0 none) = some (Value.map x)) ∧
 ∃ (n_2 : Int),
 gimp (!b_1)
 (∀ (W : World),
 Loc w.heap.size
 [Blk.mk n_1 94 [Value.int IntKind.i64 x_1, Value.bool x_2, Value.slice p n c] (wrM 2)] w' W →
 LenP Tryz.prog 97 (Value.map x) n_2 W) ∧
 bsp (!b_1 && decide (n_2 ≥ 4096))
 (∀ (W : World),
 Loc w.heap.size
 [Blk.mk n_1 94 [Value.int IntKind.i64 x_1, Value.bool x_2, Value.slice p n c] (wrM 2)] w' W →
 R (Ending.returned (Value.int IntKind.i64 9)) W)
 (∃ (x : Option Nat),
 (∀ (W : World),
 Loc w.heap.size
 [Blk.mk n_1 94 [Value.int IntKind.i64 x_1, Value.bool x_2, Value.slice p n c] (wrM 2)] w'
 W →
 W.cell? (Addr.mk b 0 none) = some (Value.map x)) ∧
 bsp x.isNone
 (∀ (W : World),
 Loc w.heap.size
 [Blk.mk n_1 94 [Value.int IntKind.i64 x_1, Value.bool x_2, Value.slice p n c] (wrM 2)] w'
 W →
 ∀ (n_3 : Nat) (w1 : World),
 NewB W (Obj.map #[] 0) n_3 w1 →
 KeptL [n_1] W w1 ∧
 ((∃ (u : Value), w1.cell? (Addr.mk b 0 none) = some u) ∧
 w1.frozen? (Addr.mk b 0 none) = false) ∧
 ∀ (w1_1 : World),
 PutB w1 b 0 [Value.map (some n_3)] w1_1 →
 KeptL [n_1] w1 w1_1 ∧
 ∃ (x : Option Nat),
 (∀ (W : World),
 Loc w.heap.size
 [Blk.mk n_1 94 [Value.int IntKind.i64 x_1, Value.bool false, Value.slice p n c]
 (wrM 0)]
 w1_1 W →
 W.cell? (Addr.mk b 0 none) = some (Value.map x)) ∧
 ∀ (W : World),
 Loc w.heap.size
 [Blk.mk n_1 94 [Value.int IntKind.i64 x_1, Value.bool false, Value.slice p n c]
 (wrM 0)]
 w1_1 W →
 ∃ (w1 : World),
 UpdP Tryz.prog 97 (Value.map x) (Value.string s)
 (Value.agg #[Value.int IntKind.i64 x_1, Value.bool false, Value.slice p n c])
 W w1 ∧
 KeptL [n_1] W w1 ∧ R (Ending.returned (Value.int IntKind.i64 0)) w1)
 (∃ (x : Option Nat),
 (∀ (W : World),
 Loc w.heap.size
 [Blk.mk n_1 94 [Value.int IntKind.i64 x_1, Value.bool false, Value.slice p n c]
 (wrM (wrM 2))]
 w' W →
 W.cell? (Addr.mk b 0 none) = some (Value.map x)) ∧
 ∀ (W : World),
 Loc w.heap.size
 [Blk.mk n_1 94 [Value.int IntKind.i64 x_1, Value.bool false, Value.slice p n c]
 (wrM (wrM 2))]
 w' W →
 ∃ (w1 : World),
 UpdP Tryz.prog 97 (Value.map x) (Value.string s)
 (Value.agg #[Value.int IntKind.i64 x_1, Value.bool false, Value.slice p n c]) W w1 ∧
 KeptL [n_1] W w1 ∧ R (Ending.returned (Value.int IntKind.i64 0)) w1))))
theorem vc_acopen (b : Nat) (s : ByteArray) (w : World) (R : Ending → World → Prop) (h : VC_acopen b s w R) : Calls Tryz.prog 31 ([Value.pointer
    (some { block := b, off := 0 }),
  Value.string s] : List Value).toArray w R := by
  have e : execR2 { P := Tryz.prog, loops := [], pur := pur1, tails := [(14, 6)], joins := [], boxes := [] } Tryz.f31.results.toList R (Tryz.f31.body.getD .skip) (initF [Value.pointer
    (some { block := b, off := 0 }),
  Value.string
    s] (Tryz.f31.ntmps - ([Value.pointer (some { block := b, off := 0 }),
  Value.string s] : List Value).length)) w = VC_acopen b s w R := by kernel_rfl
  have hb : Tryz.f31.body = some (Tryz.f31.body.getD .skip) := by kernel_rfl
  exact calls_of_exec2' (P := Tryz.prog) (fn := Tryz.f31) (c := Tryz.f31.body.getD .skip) (args := [Value.pointer
    (some { block := b, off := 0 }),
  Value.string s]) (w := w) (R := R) pur1_ok Tryz.func31 hb e h

def VC_acclose (b : Nat) (s : ByteArray) (w : World) (R : Ending → World → Prop) : Prop :=
 CallsS Tryz.prog 45 #[Value.pointer (some (Addr.mk b 0 none)), Value.string s] w fun (e : Ending) (w' : World) =>
 ∃ (x : Int),
 ∃ (x_1 : Bool),
 ∃ (p : Option Addr),
 ∃ (n : Nat),
 ∃ (c : Nat),
 ∃ (x_2 : Int),
 e =
 Ending.returned
 (Value.tuple
 #[Value.agg #[Value.int IntKind.i64 x, Value.bool x_1, Value.slice p n c], Value.int IntKind.i64 x_2]) ∧
 KeptL [] w w' ∧
 ∀ (n_1 : Nat),
 bsp (x_2 != 0)
 (∀ (W : World),
 Loc w.heap.size [Blk.mk n_1 94 [Value.int IntKind.i64 x, Value.bool x_1, Value.slice p n c] (wrM 2)] w' W →
 R (Ending.returned (Value.int IntKind.i64 x_2)) W)
 (bsp x_1
 (∀ (W : World),
 Loc w.heap.size [Blk.mk n_1 94 [Value.int IntKind.i64 x, Value.bool x_1, Value.slice p n c] (wrM 2)] w' W →
 R (Ending.returned (Value.int IntKind.i64 10)) W)
 (∃ (x_3 : Option Nat),
 (∀ (W : World),
 Loc w.heap.size
 [Blk.mk n_1 94 [Value.int IntKind.i64 x, Value.bool true, Value.slice p n c] (wrM (wrM 2))] w' W →
 W.cell? (Addr.mk b 0 none) = some (Value.map x_3)) ∧
 ∀ (W : World),
 Loc w.heap.size
 [Blk.mk n_1 94 [Value.int IntKind.i64 x, Value.bool true, Value.slice p n c] (wrM (wrM 2))] w' W →
 ∃ (w1 : World),
 UpdP Tryz.prog 97 (Value.map x_3) (Value.string s)
 (Value.agg #[Value.int IntKind.i64 x, Value.bool true, Value.slice p n c]) W w1 ∧
 KeptL [n_1] W w1 ∧ R (Ending.returned (Value.int IntKind.i64 0)) w1))
theorem vc_acclose (b : Nat) (s : ByteArray) (w : World) (R : Ending → World → Prop) (h : VC_acclose b s w R) : Calls Tryz.prog 26 ([Value.pointer
    (some { block := b, off := 0 }),
  Value.string s] : List Value).toArray w R := by
  have e : execR2 { P := Tryz.prog, loops := [], pur := pur1, tails := [(7, 6)], joins := [], boxes := [] } Tryz.f26.results.toList R (Tryz.f26.body.getD .skip) (initF [Value.pointer
    (some { block := b, off := 0 }),
  Value.string
    s] (Tryz.f26.ntmps - ([Value.pointer (some { block := b, off := 0 }),
  Value.string s] : List Value).length)) w = VC_acclose b s w R := by kernel_rfl
  have hb : Tryz.f26.body = some (Tryz.f26.body.getD .skip) := by kernel_rfl
  exact calls_of_exec2' (P := Tryz.prog) (fn := Tryz.f26) (c := Tryz.f26.body.getD .skip) (args := [Value.pointer
    (some { block := b, off := 0 }),
  Value.string s]) (w := w) (R := R) pur1_ok Tryz.func26 hb e h

def VC_acwith (p : Option Addr) (n : Nat) (c : Nat) (v : Int) (w : World) (R : Ending → World → Prop) : Prop :=
 nn (decide (IntKind.i64.wrap ((↑n : Int) - 1) ≥ 0)) p fun (b o : Nat) =>
 gimp (decide (IntKind.i64.wrap ((↑n : Int) - 1) ≥ 0))
 (0 ≤ IntKind.i64.wrap ((↑n : Int) - 1) ∧ IntKind.i64.wrap ((↑n : Int) - 1) < (↑n : Int)) ∧
 ∃ (x : Int),
 gimp (decide (IntKind.i64.wrap ((↑n : Int) - 1) ≥ 0))
 (w.cell? (Addr.mk b (o + (IntKind.i64.wrap ((↑n : Int) - 1)).toNat * 2 + 1) none) =
 some (Value.int IntKind.i64 x)) ∧
 bsp (decide (IntKind.i64.wrap ((↑n : Int) - 1) ≥ 0) && x == IntKind.i64.wrap (v - 1))
 (nn true p fun (b o : Nat) =>
 (0 ≤ IntKind.i64.wrap ((↑n : Int) - 1) ∧ IntKind.i64.wrap ((↑n : Int) - 1) < (↑n : Int)) ∧
 ((∃ (u : Value), w.cell? (Addr.mk b (o + (IntKind.i64.wrap ((↑n : Int) - 1)).toNat * 2 + 1) none) = some u) ∧
 w.frozen? (Addr.mk b (o + (IntKind.i64.wrap ((↑n : Int) - 1)).toNat * 2 + 1) none) = false) ∧
 ∀ (w1 : World),
 PutB w b (o + (IntKind.i64.wrap ((↑n : Int) - 1)).toNat * 2 + 1) [Value.int IntKind.i64 v] w1 →
 KeptL [] w w1 ∧ R (Ending.returned (Value.slice p n c)) w1)
 (∀ (n_1 : Nat) (W : World),
 Loc w.heap.size [Blk.mk n_1 105 [Value.int IntKind.i64 v, Value.int IntKind.i64 v] 2] w W →
 ∃ (base : Nat),
 ∃ (xs : List Value),
 W.ownsRow base 105 2 (Value.slice p n c) n xs ∧
 n + 1 ≤ 9223372036854775807 ∧
 (n + 1) * 16 ≤ 140737488355328 ∧
 base ≤ W.heap.size ∧
 ∀ (p' : Option Addr) (c' : Nat) (w' : World),
 w'.ownsRow base 105 2 (Value.slice p' (n + 1) c') (n + 1)
 (xs ++ [Value.int IntKind.i64 v, Value.int IntKind.i64 v]) →
 W.grownBy w' (Value.slice p n c).ownBlock →
 AppL W p n c 1 p' c' → KeptL [] W w' ∧ R (Ending.returned (Value.slice p' (n + 1) c')) w')
theorem vc_acwith (p : Option Addr) (n : Nat) (c : Nat) (v : Int) (w : World) (R : Ending → World → Prop) (h : VC_acwith p n c v w R) : Calls Tryz.prog 61 ([Value.slice
    p n c,
  Value.int IntKind.i64 v] : List Value).toArray w R := by
  have e : execR2 { P := Tryz.prog, loops := [], pur := pur1, tails := [], joins := [], boxes := [] } Tryz.f61.results.toList R (Tryz.f61.body.getD .skip) (initF [Value.slice
    p n c,
  Value.int IntKind.i64
    v] (Tryz.f61.ntmps - ([Value.slice p n c,
  Value.int IntKind.i64 v] : List Value).length)) w = VC_acwith p n c v w R := by kernel_rfl
  have hb : Tryz.f61.body = some (Tryz.f61.body.getD .skip) := by kernel_rfl
  exact calls_of_exec2' (P := Tryz.prog) (fn := Tryz.f61) (c := Tryz.f61.body.getD .skip) (args := [Value.slice p n c,
  Value.int IntKind.i64 v]) (w := w) (R := R) pur1_ok Tryz.func61 hb e h

def VC_acremove (b : Nat) (s : ByteArray) (v : Int) (w : World) (R : Ending → World → Prop) : Prop :=
 ∀ (n : Nat) (W : World),
 Loc w.heap.size [Blk.mk n 64 [Value.string s, Value.int IntKind.i64 v] 2] w W →
 CallsS Tryz.prog 45 #[Value.pointer (some (Addr.mk b 0 none)), Value.string s] W fun (e : Ending) (w' : World) =>
 ∃ (x : Int),
 ∃ (x_1 : Bool),
 ∃ (p : Option Addr),
 ∃ (n_1 : Nat),
 ∃ (c : Nat),
 ∃ (x_2 : Int),
 e =
 Ending.returned
 (Value.tuple
 #[Value.agg #[Value.int IntKind.i64 x, Value.bool x_1, Value.slice p n_1 c], Value.int IntKind.i64 x_2]) ∧
 KeptL [n] W w' ∧
 ∀ (n_2 : Nat),
 bsp (x_2 != 0)
 (∀ (W : World),
 Loc w.heap.size
 [Blk.mk n_2 94 [Value.int IntKind.i64 x, Value.bool x_1, Value.slice p n_1 c] (wrM 2),
 Blk.mk n 64 [Value.string s, Value.int IntKind.i64 v] 0]
 w' W →
 R (Ending.returned (Value.int IntKind.i64 x_2)) W)
 (∀ (W : World),
 Loc w.heap.size
 [Blk.mk n_2 94 [Value.int IntKind.i64 x, Value.bool x_1, Value.slice p n_1 c] (wrM 2),
 Blk.mk n 64 [Value.string s, Value.int IntKind.i64 v] 0]
 w' W →
 CallsS Tryz.prog 63
 #[Value.agg #[Value.int IntKind.i64 x, Value.bool x_1, Value.slice p n_1 c], Value.int IntKind.i64 v] W
 fun (e : Ending) (w' : World) =>
 ∃ (x_3 : Bool),
 e = Ending.returned (Value.bool x_3) ∧
 KeptL [n_2, n] W w' ∧
 bsp (!x_3) (R (Ending.returned (Value.int IntKind.i64 8)) w')
 (∀ (n_3 : Nat) (W : World),
 Loc w.heap.size
 [Blk.mk n_3 92 [Value.slice none 0 0] 2,
 Blk.mk n_2 94 [Value.int IntKind.i64 x, Value.bool x_1, Value.slice p n_1 c] 0,
 Blk.mk n 64 [Value.string s, Value.int IntKind.i64 v] 0]
 w' W →
 ∃ (I : List Value → World → Prop),
 ∃ (m : List Value → World → Nat),
 I [Value.int IntKind.i64 0] W ∧
 ∀ (x_4 : Int) (w' : World),
 I [Value.int IntKind.i64 x_4] w' →
 Loc w.heap.size
 [Blk.mk n_2 94 [Value.int IntKind.i64 x, Value.bool x_1, Value.slice p n_1 c] 0,
 Blk.mk n 64 [Value.string s, Value.int IntKind.i64 v] 0]
 w' w' →
 bsp (decide (x_4 < (↑n_1 : Int)))
 (nn true p fun (b o : Nat) =>
 (0 ≤ x_4 ∧ x_4 < (↑n_1 : Int)) ∧
 ∃ (x_5 : Int),
 ∃ (x_6 : Int),
 AtL w' b (o + x_4.toNat * 2) [Value.int IntKind.i64 x_5, Value.int IntKind.i64 x_6] ∧
 ∀ (n_4 : Nat),
 ∃ (x_7 : Int),
 gimp (!decide (v < x_5))
 (∀ (W : World),
 Loc w.heap.size
 [Blk.mk n_2 94 [Value.int IntKind.i64 x, Value.bool x_1, Value.slice p n_1 c]
 0,
 Blk.mk n 64 [Value.string s, Value.int IntKind.i64 v] 0,
 Blk.mk n_4 105 [Value.int IntKind.i64 x_5, Value.int IntKind.i64 x_6] (wrM 2)]
 w' W →
 W.cell? (Addr.mk n (0 + 1) none) = some (Value.int IntKind.i64 x_7)) ∧
 ∃ (x_8 : Int),
 gimp (!decide (v < x_5))
 (∀ (W : World),
 Loc w.heap.size
 [Blk.mk n_2 94 [Value.int IntKind.i64 x, Value.bool x_1, Value.slice p n_1 c]
 0,
 Blk.mk n 64 [Value.string s, Value.int IntKind.i64 v] 0,
 Blk.mk n_4 105 [Value.int IntKind.i64 x_5, Value.int IntKind.i64 x_6]
 (wrM 2)]
 w' W →
 W.cell? (Addr.mk n_4 (0 + 1) none) = some (Value.int IntKind.i64 x_8)) ∧
 bsp (decide (v < x_5) || decide (x_7 > x_8))
 (∀ (W : World),
 Loc w.heap.size
 [Blk.mk n_2 94 [Value.int IntKind.i64 x, Value.bool x_1, Value.slice p n_1 c]
 0,
 Blk.mk n 64 [Value.string s, Value.int IntKind.i64 v] 0,
 Blk.mk n_4 105 [Value.int IntKind.i64 x_5, Value.int IntKind.i64 x_6]
 (wrM 2)]
 w' W →
 ∃ (f : Nat),
 ∃ (a : Array Value),
 ∃ (b : Array Value),
 Value.func (Fn.func 65) #[] #[Value.pointer (some (Addr.mk n_3 0 none))] =
 Value.func (Fn.func f) a b ∧
 okFn Tryz.prog f = true ∧
 CallsS Tryz.prog f
 (appA a [Value.int IntKind.i64 x_5, Value.int IntKind.i64 x_6] b) W
 fun (e : Ending) (w'_1 : World) =>
 e = Ending.returned (Value.tuple #[]) ∧
 KeptL [n_2, n, n_4] W w'_1 ∧
 I [Value.int IntKind.i64 (IntKind.i64.wrap (x_4 + 1))] w'_1 ∧
 m [Value.int IntKind.i64 (IntKind.i64.wrap (x_4 + 1))] w'_1 <
 m [Value.int IntKind.i64 x_4] w')
 (∀ (W : World),
 Loc w.heap.size
 [Blk.mk n_2 94 [Value.int IntKind.i64 x, Value.bool x_1, Value.slice p n_1 c]
 0,
 Blk.mk n 64 [Value.string s, Value.int IntKind.i64 v] 0,
 Blk.mk n_4 105 [Value.int IntKind.i64 x_5, Value.int IntKind.i64 x_6]
 (wrM 2)]
 w' W →
 ∃ (f : Nat),
 ∃ (a : Array Value),
 ∃ (b : Array Value),
 Value.func (Fn.func 65) #[] #[Value.pointer (some (Addr.mk n_3 0 none))] =
 Value.func (Fn.func f) a b ∧
 okFn Tryz.prog f = true ∧
 CallsS Tryz.prog f
 (appA a
 [Value.int IntKind.i64 x_5,
 Value.int IntKind.i64 (IntKind.i64.wrap (v - 1))]
 b)
 W fun (e : Ending) (w'_1 : World) =>
 e = Ending.returned (Value.tuple #[]) ∧
 KeptL [n_2, n, n_4] W w'_1 ∧
 ∃ (f : Nat),
 ∃ (a : Array Value),
 ∃ (b : Array Value),
 Value.func (Fn.func 65) #[]
 #[Value.pointer (some (Addr.mk n_3 0 none))] =
 Value.func (Fn.func f) a b ∧
 okFn Tryz.prog f = true ∧
 CallsS Tryz.prog f
 (appA a
 [Value.int IntKind.i64 (IntKind.i64.wrap (v + 1)),
 Value.int IntKind.i64 x_6]
 b)
 w'_1 fun (e : Ending) (w'_2 : World) =>
 e = Ending.returned (Value.tuple #[]) ∧
 KeptL [n_2, n, n_4] w'_1 w'_2 ∧
 I [Value.int IntKind.i64 (IntKind.i64.wrap (x_4 + 1))] w'_2 ∧
 m [Value.int IntKind.i64 (IntKind.i64.wrap (x_4 + 1))] w'_2 <
 m [Value.int IntKind.i64 x_4] w'))
 (∃ (p : Option Addr),
 ∃ (n_4 : Nat),
 ∃ (c : Nat),
 w'.cell? (Addr.mk n_3 0 none) = some (Value.slice p n_4 c) ∧
 ∃ (x_5 : Option Nat),
 (∀ (W : World),
 Loc w.heap.size
 [Blk.mk n_2 94 [Value.int IntKind.i64 x, Value.bool x_1, Value.slice p n_4 c]
 (wrM 0),
 Blk.mk n 64 [Value.string s, Value.int IntKind.i64 v] 0]
 w' W →
 W.cell? (Addr.mk b 0 none) = some (Value.map x_5)) ∧
 ∀ (W : World),
 Loc w.heap.size
 [Blk.mk n_2 94 [Value.int IntKind.i64 x, Value.bool x_1, Value.slice p n_4 c]
 (wrM 0),
 Blk.mk n 64 [Value.string s, Value.int IntKind.i64 v] 0]
 w' W →
 ∃ (w1 : World),
 UpdP Tryz.prog 97 (Value.map x_5) (Value.string s)
 (Value.agg #[Value.int IntKind.i64 x, Value.bool x_1, Value.slice p n_4 c]) W
 w1 ∧
 KeptL [n_2, n] W w1 ∧ R (Ending.returned (Value.int IntKind.i64 0)) w1)))
theorem vc_acremove (b : Nat) (s : ByteArray) (v : Int) (w : World) (R : Ending → World → Prop) (h : VC_acremove b s v w R) : Calls Tryz.prog 33 ([Value.pointer
    (some { block := b, off := 0 }),
  Value.agg #[Value.string s, Value.int IntKind.i64 v]] : List Value).toArray w R := by
  have e : execR2 { P := Tryz.prog, loops := [(9, [(30, Ck.int IntKind.i64)])], pur := pur1, tails := [(17, 7)], joins := [], boxes := [] } Tryz.f33.results.toList R (Tryz.f33.body.getD .skip) (initF [Value.pointer
    (some { block := b, off := 0 }),
  Value.agg
    #[Value.string s,
      Value.int IntKind.i64
        v]] (Tryz.f33.ntmps - ([Value.pointer (some { block := b, off := 0 }),
  Value.agg
    #[Value.string s, Value.int IntKind.i64 v]] : List Value).length)) w = VC_acremove b s v w R := by kernel_rfl
  have hb : Tryz.f33.body = some (Tryz.f33.body.getD .skip) := by kernel_rfl
  exact calls_of_exec2' (P := Tryz.prog) (fn := Tryz.f33) (c := Tryz.f33.body.getD .skip) (args := [Value.pointer
    (some { block := b, off := 0 }),
  Value.agg #[Value.string s, Value.int IntKind.i64 v]]) (w := w) (R := R) pur1_ok Tryz.func33 hb e h

def VC_achasg (z : Int) (cl : Bool) (p : Option Addr) (n : Nat) (c : Nat) (v : Int) (w : World) (R : Ending → World → Prop) : Prop :=
 ∀ (n_1 n_2 : Nat) (W : World),
 Loc w.heap.size
 [Blk.mk n_2 3 [Value.int IntKind.i64 v] 2,
 Blk.mk n_1 94 [Value.int IntKind.i64 z, Value.bool cl, Value.slice p n c] 2]
 w W →
 CallsS Tryz.prog 85 #[Value.slice p n c, Value.func (Fn.func 86) #[] #[Value.pointer (some (Addr.mk n_2 0 none))]] W
 fun (e : Ending) (w' : World) =>
 ∃ (x : Bool), e = Ending.returned (Value.bool x) ∧ KeptL [n_1] W w' ∧ R (Ending.returned (Value.bool x)) w'
theorem vc_achasg (z : Int) (cl : Bool) (p : Option Addr) (n : Nat) (c : Nat) (v : Int) (w : World) (R : Ending → World → Prop) (h : VC_achasg z cl p n c v w R) : Calls Tryz.prog 63 ([Value.agg
    #[Value.int IntKind.i64 z, Value.bool cl, Value.slice p n c],
  Value.int IntKind.i64 v] : List Value).toArray w R := by
  have e : execR2 { P := Tryz.prog, loops := [], pur := pur1, tails := [], joins := [], boxes := [] } Tryz.f63.results.toList R (Tryz.f63.body.getD .skip) (initF [Value.agg
    #[Value.int IntKind.i64 z, Value.bool cl, Value.slice p n c],
  Value.int IntKind.i64
    v] (Tryz.f63.ntmps - ([Value.agg #[Value.int IntKind.i64 z, Value.bool cl, Value.slice p n c],
  Value.int IntKind.i64 v] : List Value).length)) w = VC_achasg z cl p n c v w R := by kernel_rfl
  have hb : Tryz.f63.body = some (Tryz.f63.body.getD .skip) := by kernel_rfl
  exact calls_of_exec2' (P := Tryz.prog) (fn := Tryz.f63) (c := Tryz.f63.body.getD .skip) (args := [Value.agg
    #[Value.int IntKind.i64 z, Value.bool cl, Value.slice p n c],
  Value.int IntKind.i64 v]) (w := w) (R := R) pur1_ok Tryz.func63 hb e h

def VC_acget (b : Nat) (s : ByteArray) (w : World) (R : Ending → World → Prop) : Prop :=
 ∀ (n : Nat) (W : World),
 Loc w.heap.size
 [Blk.mk n 31
 [Value.string (ByteArray.mk #[]), Value.int IntKind.i64 0, Value.int IntKind.i64 0, Value.int IntKind.i64 0,
 Value.bool false]
 2]
 w W →
 CallsS Tryz.prog 45 #[Value.pointer (some (Addr.mk b 0 none)), Value.string s] W fun (e : Ending) (w' : World) =>
 ∃ (x : Int),
 ∃ (x_1 : Bool),
 ∃ (p : Option Addr),
 ∃ (n_1 : Nat),
 ∃ (c : Nat),
 ∃ (x_2 : Int),
 e =
 Ending.returned
 (Value.tuple
 #[Value.agg #[Value.int IntKind.i64 x, Value.bool x_1, Value.slice p n_1 c], Value.int IntKind.i64 x_2]) ∧
 KeptL [n] W w' ∧
 ∀ (n_2 : Nat),
 bsp (x_2 != 0)
 (∀ (W : World),
 Loc w.heap.size
 [Blk.mk n_2 94 [Value.int IntKind.i64 x, Value.bool x_1, Value.slice p n_1 c] (wrM 2),
 Blk.mk n 31
 [Value.string (ByteArray.mk #[]), Value.int IntKind.i64 0, Value.int IntKind.i64 0,
 Value.int IntKind.i64 0, Value.bool false]
 (wrM 0)]
 w' W →
 R
 (Ending.returned
 (Value.tuple
 #[Value.agg
 #[Value.string (ByteArray.mk #[]), Value.int IntKind.i64 0, Value.int IntKind.i64 0,
 Value.int IntKind.i64 0, Value.bool false],
 Value.int IntKind.i64 x_2]))
 W)
 (∀ (n_3 : Nat),
 bsp (decide ((↑n_1 : Int) > 0))
 (nn true p fun (b o : Nat) =>
 ((0 : Int) ≤ 0 ∧ 0 < (↑n_1 : Int)) ∧
 ∃ (x_3 : Int),
 (∀ (W : World),
 Loc w.heap.size
 [Blk.mk n_3 31
 [Value.string s, Value.int IntKind.i64 (IntKind.i64.wrap (x + 1)), Value.int IntKind.i64 x,
 Value.int IntKind.i64 0, Value.bool x_1]
 (wrM 2),
 Blk.mk n_2 94 [Value.int IntKind.i64 x, Value.bool x_1, Value.slice p n_1 c] (wrM 2),
 Blk.mk n 31
 [Value.string (ByteArray.mk #[]), Value.int IntKind.i64 0, Value.int IntKind.i64 0,
 Value.int IntKind.i64 0, Value.bool false]
 0]
 w' W →
 W.cell? (Addr.mk b o none) = some (Value.int IntKind.i64 x_3)) ∧
 ∀ (W : World),
 Loc w.heap.size
 [Blk.mk n_3 31
 [Value.string s, Value.int IntKind.i64 x_3, Value.int IntKind.i64 x, Value.int IntKind.i64 0,
 Value.bool x_1]
 (wrM (wrM 2)),
 Blk.mk n_2 94 [Value.int IntKind.i64 x, Value.bool x_1, Value.slice p n_1 c] (wrM 2),
 Blk.mk n 31
 [Value.string (ByteArray.mk #[]), Value.int IntKind.i64 0, Value.int IntKind.i64 0,
 Value.int IntKind.i64 0, Value.bool false]
 0]
 w' W →
 ∃ (I : List Value → World → Prop),
 ∃ (m : List Value → World → Nat),
 I [Value.int IntKind.i64 0] W ∧
 ∀ (x_4 : Int) (w' : World),
 I [Value.int IntKind.i64 x_4] w' →
 Loc w.heap.size
 [Blk.mk n_2 94 [Value.int IntKind.i64 x, Value.bool x_1, Value.slice p n_1 c] 0,
 Blk.mk n 31
 [Value.string (ByteArray.mk #[]), Value.int IntKind.i64 0, Value.int IntKind.i64 0,
 Value.int IntKind.i64 0, Value.bool false]
 0]
 w' w' →
 bsp (decide (x_4 < (↑n_1 : Int)))
 (nn true p fun (b o : Nat) =>
 (0 ≤ x_4 ∧ x_4 < (↑n_1 : Int)) ∧
 ∃ (x_5 : Int),
 ∃ (x_6 : Int),
 AtL w' b (o + x_4.toNat * 2) [Value.int IntKind.i64 x_5, Value.int IntKind.i64 x_6] ∧
 ∀ (n_4 : Nat),
 ∃ (x_7 : Int),
 (∀ (W : World),
 Loc w.heap.size
 [Blk.mk n_2 94 [Value.int IntKind.i64 x, Value.bool x_1, Value.slice p n_1 c] 0,
 Blk.mk n 31
 [Value.string (ByteArray.mk #[]), Value.int IntKind.i64 0,
 Value.int IntKind.i64 0, Value.int IntKind.i64 0, Value.bool false]
 0,
 Blk.mk n_4 105 [Value.int IntKind.i64 x_5, Value.int IntKind.i64 x_6] (wrM 2)]
 w' W →
 W.cell? (Addr.mk n_3 (0 + 3) none) = some (Value.int IntKind.i64 x_7)) ∧
 ∀ (W : World),
 Loc w.heap.size
 [Blk.mk n_2 94 [Value.int IntKind.i64 x, Value.bool x_1, Value.slice p n_1 c] 0,
 Blk.mk n 31
 [Value.string (ByteArray.mk #[]), Value.int IntKind.i64 0,
 Value.int IntKind.i64 0, Value.int IntKind.i64 0, Value.bool false]
 0,
 Blk.mk n_4 105 [Value.int IntKind.i64 x_5, Value.int IntKind.i64 x_6] (wrM 2)]
 w' W →
 ((∃ (u : Value), W.cell? (Addr.mk n_3 (0 + 3) none) = some u) ∧
 W.frozen? (Addr.mk n_3 (0 + 3) none) = false) ∧
 ∀ (w1 : World),
 PutB W n_3 (0 + 3)
 [Value.int IntKind.i64
 (IntKind.i64.wrap
 (x_7 + IntKind.i64.wrap (IntKind.i64.wrap (x_6 - x_5) + 1)))]
 w1 →
 KeptL [n_2, n, n_4] W w1 ∧
 I [Value.int IntKind.i64 (IntKind.i64.wrap (x_4 + 1))] w1 ∧
 m [Value.int IntKind.i64 (IntKind.i64.wrap (x_4 + 1))] w1 <
 m [Value.int IntKind.i64 x_4] w')
 (∃ (x_5 : ByteArray),
 ∃ (x_6 : Int),
 ∃ (x_7 : Int),
 ∃ (x_8 : Int),
 ∃ (x_9 : Bool),
 AtL w' n_3 0
 [Value.string x_5, Value.int IntKind.i64 x_6, Value.int IntKind.i64 x_7,
 Value.int IntKind.i64 x_8, Value.bool x_9] ∧
 ∀ (W : World),
 Loc w.heap.size
 [Blk.mk n_2 94 [Value.int IntKind.i64 x, Value.bool x_1, Value.slice p n_1 c] 0,
 Blk.mk n 31
 [Value.string x_5, Value.int IntKind.i64 x_6, Value.int IntKind.i64 x_7,
 Value.int IntKind.i64 x_8, Value.bool x_9]
 (wrM 0)]
 w' W →
 R
 (Ending.returned
 (Value.tuple
 #[Value.agg
 #[Value.string x_5, Value.int IntKind.i64 x_6, Value.int IntKind.i64 x_7,
 Value.int IntKind.i64 x_8, Value.bool x_9],
 Value.int IntKind.i64 0]))
 W))
 (∀ (W : World),
 Loc w.heap.size
 [Blk.mk n_3 31
 [Value.string s, Value.int IntKind.i64 (IntKind.i64.wrap (x + 1)), Value.int IntKind.i64 x,
 Value.int IntKind.i64 0, Value.bool x_1]
 (wrM 2),
 Blk.mk n_2 94 [Value.int IntKind.i64 x, Value.bool x_1, Value.slice p n_1 c] (wrM 2),
 Blk.mk n 31
 [Value.string (ByteArray.mk #[]), Value.int IntKind.i64 0, Value.int IntKind.i64 0,
 Value.int IntKind.i64 0, Value.bool false]
 0]
 w' W →
 ∃ (I : List Value → World → Prop),
 ∃ (m : List Value → World → Nat),
 I [Value.int IntKind.i64 0] W ∧
 ∀ (x_3 : Int) (w' : World),
 I [Value.int IntKind.i64 x_3] w' →
 Loc w.heap.size
 [Blk.mk n_2 94 [Value.int IntKind.i64 x, Value.bool x_1, Value.slice p n_1 c] 0,
 Blk.mk n 31
 [Value.string (ByteArray.mk #[]), Value.int IntKind.i64 0, Value.int IntKind.i64 0,
 Value.int IntKind.i64 0, Value.bool false]
 0]
 w' w' →
 bsp (decide (x_3 < (↑n_1 : Int)))
 (nn true p fun (b o : Nat) =>
 (0 ≤ x_3 ∧ x_3 < (↑n_1 : Int)) ∧
 ∃ (x_4 : Int),
 ∃ (x_5 : Int),
 AtL w' b (o + x_3.toNat * 2) [Value.int IntKind.i64 x_4, Value.int IntKind.i64 x_5] ∧
 ∀ (n_4 : Nat),
 ∃ (x_6 : Int),
 (∀ (W : World),
 Loc w.heap.size
 [Blk.mk n_2 94 [Value.int IntKind.i64 x, Value.bool x_1, Value.slice p n_1 c] 0,
 Blk.mk n 31
 [Value.string (ByteArray.mk #[]), Value.int IntKind.i64 0, Value.int IntKind.i64 0,
 Value.int IntKind.i64 0, Value.bool false]
 0,
 Blk.mk n_4 105 [Value.int IntKind.i64 x_4, Value.int IntKind.i64 x_5] (wrM 2)]
 w' W →
 W.cell? (Addr.mk n_3 (0 + 3) none) = some (Value.int IntKind.i64 x_6)) ∧
 ∀ (W : World),
 Loc w.heap.size
 [Blk.mk n_2 94 [Value.int IntKind.i64 x, Value.bool x_1, Value.slice p n_1 c] 0,
 Blk.mk n 31
 [Value.string (ByteArray.mk #[]), Value.int IntKind.i64 0, Value.int IntKind.i64 0,
 Value.int IntKind.i64 0, Value.bool false]
 0,
 Blk.mk n_4 105 [Value.int IntKind.i64 x_4, Value.int IntKind.i64 x_5] (wrM 2)]
 w' W →
 ((∃ (u : Value), W.cell? (Addr.mk n_3 (0 + 3) none) = some u) ∧
 W.frozen? (Addr.mk n_3 (0 + 3) none) = false) ∧
 ∀ (w1 : World),
 PutB W n_3 (0 + 3)
 [Value.int IntKind.i64
 (IntKind.i64.wrap (x_6 + IntKind.i64.wrap (IntKind.i64.wrap (x_5 - x_4) + 1)))]
 w1 →
 KeptL [n_2, n, n_4] W w1 ∧
 I [Value.int IntKind.i64 (IntKind.i64.wrap (x_3 + 1))] w1 ∧
 m [Value.int IntKind.i64 (IntKind.i64.wrap (x_3 + 1))] w1 <
 m [Value.int IntKind.i64 x_3] w')
 (∃ (x_4 : ByteArray),
 ∃ (x_5 : Int),
 ∃ (x_6 : Int),
 ∃ (x_7 : Int),
 ∃ (x_8 : Bool),
 AtL w' n_3 0
 [Value.string x_4, Value.int IntKind.i64 x_5, Value.int IntKind.i64 x_6,
 Value.int IntKind.i64 x_7, Value.bool x_8] ∧
 ∀ (W : World),
 Loc w.heap.size
 [Blk.mk n_2 94 [Value.int IntKind.i64 x, Value.bool x_1, Value.slice p n_1 c] 0,
 Blk.mk n 31
 [Value.string x_4, Value.int IntKind.i64 x_5, Value.int IntKind.i64 x_6,
 Value.int IntKind.i64 x_7, Value.bool x_8]
 (wrM 0)]
 w' W →
 R
 (Ending.returned
 (Value.tuple
 #[Value.agg
 #[Value.string x_4, Value.int IntKind.i64 x_5, Value.int IntKind.i64 x_6,
 Value.int IntKind.i64 x_7, Value.bool x_8],
 Value.int IntKind.i64 0]))
 W)))
theorem vc_acget (b : Nat) (s : ByteArray) (w : World) (R : Ending → World → Prop) (h : VC_acget b s w R) : Calls Tryz.prog 16 ([Value.pointer
    (some { block := b, off := 0 }),
  Value.string s] : List Value).toArray w R := by
  have e : execR2 { P := Tryz.prog, loops := [(8, [(43, Ck.int IntKind.i64)])], pur := pur1, tails := [], joins := [], boxes := [] } Tryz.f16.results.toList R (Tryz.f16.body.getD .skip) (initF [Value.pointer
    (some { block := b, off := 0 }),
  Value.string
    s] (Tryz.f16.ntmps - ([Value.pointer (some { block := b, off := 0 }),
  Value.string s] : List Value).length)) w = VC_acget b s w R := by kernel_rfl
  have hb : Tryz.f16.body = some (Tryz.f16.body.getD .skip) := by kernel_rfl
  exact calls_of_exec2' (P := Tryz.prog) (fn := Tryz.f16) (c := Tryz.f16.body.getD .skip) (args := [Value.pointer
    (some { block := b, off := 0 }),
  Value.string s]) (w := w) (R := R) pur1_ok Tryz.func16 hb e h

def VC_acgroups (b : Nat) (w : World) (R : Ending → World → Prop) : Prop :=
 ∃ (x : Option Nat),
 w.cell? (Addr.mk b 0 none) = some (Value.map x) ∧
 ∃ (n : Nat),
 ∃ (w1 : World),
 RngP Tryz.prog 97 (Value.map x) n w w1 ∧
 KeptL [] w w1 ∧
 ∃ (I : List Value → World → Prop),
 ∃ (m : List Value → World → Nat),
 I [Value.slice none 0 0] w1 ∧
 ∀ (p : Option Addr) (n_1 c : Nat) (w' : World),
 I [Value.slice p n_1 c] w' →
 ∃ (b : Bool),
 ∃ (r : List Value),
 ∃ (w1 : World),
 NxtP Tryz.prog (Value.pointer (some (Addr.mk n 0 none))) b r w' w1 ∧
 KeptL [] w' w1 ∧
 bsp b
 (∃ (x : ByteArray),
 ∃ (x_1 : Int),
 ∃ (x_2 : Bool),
 ∃ (p_1 : Option Addr),
 ∃ (n_2 : Nat),
 ∃ (c_1 : Nat),
 EntP Tryz.prog (Value.pointer (some (Addr.mk n 0 none)))
 (Value.tuple
 #[Value.string x,
 Value.agg #[Value.int IntKind.i64 x_1, Value.bool x_2, Value.slice p_1 n_2 c_1]])
 w1 ∧
 ∀ (n : Nat) (W : World),
 Loc w.heap.size [Blk.mk n 9 [Value.string x] 2] w1 W →
 ∃ (base : Nat),
 ∃ (xs : List Value),
 W.ownsRow base 9 1 (Value.slice p n_1 c) n_1 xs ∧
 n_1 + 1 ≤ 9223372036854775807 ∧
 (n_1 + 1) * 16 ≤ 140737488355328 ∧
 base ≤ W.heap.size ∧
 ∀ (p' : Option Addr) (c' : Nat) (w'_1 : World),
 w'_1.ownsRow base 9 1 (Value.slice p' (n_1 + 1) c') (n_1 + 1)
 (xs ++ [Value.string x]) →
 W.grownBy w'_1 (Value.slice p n_1 c).ownBlock →
 AppL W p n_1 c 1 p' c' →
 KeptL [] W w'_1 ∧
 I [Value.slice p' (n_1 + 1) c'] w'_1 ∧
 m [Value.slice p' (n_1 + 1) c'] w'_1 < m [Value.slice p n_1 c] w')
 (CallsS Tryz.prog 51 #[Value.slice p n_1 c, Value.func (Fn.func 52) #[] #[]] w1
 fun (e : Ending) (w' : World) =>
 e = Ending.returned (Value.tuple #[]) ∧ KeptL [] w1 w' ∧ R (Ending.returned (Value.slice p n_1 c)) w')
theorem vc_acgroups (b : Nat) (w : World) (R : Ending → World → Prop) (h : VC_acgroups b w R) : Calls Tryz.prog 18 ([Value.pointer
    (some { block := b, off := 0 })] : List Value).toArray w R := by
  have e : execR2 { P := Tryz.prog, loops := [(5, [(3, Ck.slice)])], pur := pur1, tails := [], joins := [], boxes := [], rngs := [(11, 97)] } Tryz.f18.results.toList R (Tryz.f18.body.getD .skip) (initF [Value.pointer
    (some
      { block := b,
        off :=
          0 })] (Tryz.f18.ntmps - ([Value.pointer
    (some { block := b, off := 0 })] : List Value).length)) w = VC_acgroups b w R := by kernel_rfl
  have hb : Tryz.f18.body = some (Tryz.f18.body.getD .skip) := by kernel_rfl
  exact calls_of_exec2' (P := Tryz.prog) (fn := Tryz.f18) (c := Tryz.f18.body.getD .skip) (args := [Value.pointer
    (some { block := b, off := 0 })]) (w := w) (R := R) pur1_ok Tryz.func18 hb e h

def VC_acequal (b : Nat) (d : Nat) (w : World) (R : Ending → World → Prop) : Prop :=
 ∃ (x : Option Nat),
 (∀ (W : World), Loc w.heap.size [] w W → W.cell? (Addr.mk b 0 none) = some (Value.map x)) ∧
 ∃ (n : Int),
 (∀ (W : World), Loc w.heap.size [] w W → LenP Tryz.prog 97 (Value.map x) n W) ∧
 ∃ (x : Option Nat),
 (∀ (W : World), Loc w.heap.size [] w W → W.cell? (Addr.mk d 0 none) = some (Value.map x)) ∧
 ∃ (n_1 : Int),
 (∀ (W : World), Loc w.heap.size [] w W → LenP Tryz.prog 97 (Value.map x) n_1 W) ∧
 bsp (n != n_1) (∀ (W : World), Loc w.heap.size [] w W → R (Ending.returned (Value.bool false)) W)
 (∃ (x : Option Nat),
 (∀ (W : World), Loc w.heap.size [] w W → W.cell? (Addr.mk b 0 none) = some (Value.map x)) ∧
 ∀ (W : World),
 Loc w.heap.size [] w W →
 ∃ (n : Nat),
 ∃ (w1 : World),
 RngP Tryz.prog 97 (Value.map x) n W w1 ∧
 KeptL [] W w1 ∧
 ∃ (I : List Value → World → Prop),
 ∃ (m : List Value → World → Nat),
 I [] w1 ∧
 ∀ (w' : World),
 I [] w' →
 ∃ (b : Bool),
 ∃ (r : List Value),
 ∃ (w1 : World),
 NxtP Tryz.prog (Value.pointer (some (Addr.mk n 0 none))) b r w' w1 ∧
 KeptL [] w' w1 ∧
 bsp b
 (∃ (x : ByteArray),
 ∃ (x_1 : Int),
 ∃ (x_2 : Bool),
 ∃ (p : Option Addr),
 ∃ (n_2 : Nat),
 ∃ (c : Nat),
 EntP Tryz.prog (Value.pointer (some (Addr.mk n 0 none)))
 (Value.tuple
 #[Value.string x,
 Value.agg #[Value.int IntKind.i64 x_1, Value.bool x_2, Value.slice p n_2 c]])
 w1 ∧
 ∀ (n : Nat),
 ∃ (x_3 : Option Nat),
 (∀ (W : World),
 Loc w.heap.size
 [Blk.mk n 94 [Value.int IntKind.i64 x_1, Value.bool x_2, Value.slice p n_2 c]
 (wrM 2)]
 w1 W →
 W.cell? (Addr.mk d 0 none) = some (Value.map x_3)) ∧
 ∃ (x_4 : Int),
 ∃ (x_5 : Bool),
 ∃ (p_1 : Option Addr),
 ∃ (n_3 : Nat),
 ∃ (c_1 : Nat),
 ∃ (b : Bool),
 (∀ (W : World),
 Loc w.heap.size
 [Blk.mk n 94
 [Value.int IntKind.i64 x_1, Value.bool x_2, Value.slice p n_2 c]
 (wrM 2)]
 w1 W →
 LookP Tryz.prog 97 (Value.map x_3) (Value.string x) true
 (Value.tuple
 #[Value.agg
 #[Value.int IntKind.i64 x_4, Value.bool x_5,
 Value.slice p_1 n_3 c_1],
 Value.bool b])
 W) ∧
 ∀ (n_4 : Nat),
 ∃ (x : Int),
 gimp (!!b)
 (∀ (W : World),
 Loc w.heap.size
 [Blk.mk n_4 94
 [Value.int IntKind.i64 x_4, Value.bool x_5,
 Value.slice p_1 n_3 c_1]
 (wrM 2),
 Blk.mk n 94
 [Value.int IntKind.i64 x_1, Value.bool x_2, Value.slice p n_2 c]
 (wrM 2)]
 w1 W →
 W.cell? (Addr.mk n 0 none) = some (Value.int IntKind.i64 x)) ∧
 ∃ (x_6 : Int),
 gimp (!!b)
 (∀ (W : World),
 Loc w.heap.size
 [Blk.mk n_4 94
 [Value.int IntKind.i64 x_4, Value.bool x_5,
 Value.slice p_1 n_3 c_1]
 (wrM 2),
 Blk.mk n 94
 [Value.int IntKind.i64 x_1, Value.bool x_2, Value.slice p n_2 c]
 (wrM 2)]
 w1 W →
 W.cell? (Addr.mk n_4 0 none) = some (Value.int IntKind.i64 x_6)) ∧
 ∃ (x_7 : Bool),
 gimp (!(!b || x != x_6))
 (∀ (W : World),
 Loc w.heap.size
 [Blk.mk n_4 94
 [Value.int IntKind.i64 x_4, Value.bool x_5,
 Value.slice p_1 n_3 c_1]
 (wrM 2),
 Blk.mk n 94
 [Value.int IntKind.i64 x_1, Value.bool x_2,
 Value.slice p n_2 c]
 (wrM 2)]
 w1 W →
 W.cell? (Addr.mk n (0 + 1) none) = some (Value.bool x_7)) ∧
 ∃ (x_8 : Bool),
 gimp (!(!b || x != x_6))
 (∀ (W : World),
 Loc w.heap.size
 [Blk.mk n_4 94
 [Value.int IntKind.i64 x_4, Value.bool x_5,
 Value.slice p_1 n_3 c_1]
 (wrM 2),
 Blk.mk n 94
 [Value.int IntKind.i64 x_1, Value.bool x_2,
 Value.slice p n_2 c]
 (wrM 2)]
 w1 W →
 W.cell? (Addr.mk n_4 (0 + 1) none) = some (Value.bool x_8)) ∧
 ∃ (p_2 : Option Addr),
 ∃ (n_5 : Nat),
 ∃ (c_2 : Nat),
 gimp (!(!b || x != x_6 || !x_7 == x_8))
 (∀ (W : World),
 Loc w.heap.size
 [Blk.mk n_4 94
 [Value.int IntKind.i64 x_4, Value.bool x_5,
 Value.slice p_1 n_3 c_1]
 (wrM 2),
 Blk.mk n 94
 [Value.int IntKind.i64 x_1, Value.bool x_2,
 Value.slice p n_2 c]
 (wrM 2)]
 w1 W →
 W.cell? (Addr.mk n (0 + 2) none) =
 some (Value.slice p_2 n_5 c_2)) ∧
 ∃ (p_3 : Option Addr),
 ∃ (n_6 : Nat),
 ∃ (c_3 : Nat),
 gimp (!(!b || x != x_6 || !x_7 == x_8))
 (∀ (W : World),
 Loc w.heap.size
 [Blk.mk n_4 94
 [Value.int IntKind.i64 x_4, Value.bool x_5,
 Value.slice p_1 n_3 c_1]
 (wrM 2),
 Blk.mk n 94
 [Value.int IntKind.i64 x_1, Value.bool x_2,
 Value.slice p n_2 c]
 (wrM 2)]
 w1 W →
 W.cell? (Addr.mk n_4 (0 + 2) none) =
 some (Value.slice p_3 n_6 c_3)) ∧
 ∀ (W : World),
 Loc w.heap.size
 [Blk.mk n_4 94
 [Value.int IntKind.i64 x_4, Value.bool x_5,
 Value.slice p_1 n_3 c_1]
 (wrM 2),
 Blk.mk n 94
 [Value.int IntKind.i64 x_1, Value.bool x_2,
 Value.slice p n_2 c]
 (wrM 2)]
 w1 W →
 bsp (!(!b || x != x_6 || !x_7 == x_8))
 (CallsS Tryz.prog 59
 #[Value.slice p_2 n_5 c_2, Value.slice p_3 n_6 c_3] W
 fun (e : Ending) (w'_1 : World) =>
 ∃ (x : Bool),
 e = Ending.returned (Value.bool x) ∧
 KeptL [n_4, n] W w'_1 ∧
 bsp (false || !x)
 (R (Ending.returned (Value.bool false)) w'_1)
 (I [] w'_1 ∧ m [] w'_1 < m [] w'))
 (KeptL [n_4, n] W W ∧
 R (Ending.returned (Value.bool false)) W))
 (R (Ending.returned (Value.bool true)) w1))
theorem vc_acequal (b : Nat) (d : Nat) (w : World) (R : Ending → World → Prop) (h : VC_acequal b d w R) : Calls Tryz.prog 24 ([Value.pointer
    (some { block := b, off := 0 }),
  Value.pointer (some { block := d, off := 0 })] : List Value).toArray w R := by
  have e : execR2 { P := Tryz.prog, loops := [(6, [])], pur := pur1, tails := [], joins := [], boxes := [], rngs := [(36, 97)] } Tryz.f24.results.toList R (Tryz.f24.body.getD .skip) (initF [Value.pointer
    (some { block := b, off := 0 }),
  Value.pointer
    (some
      { block := d,
        off :=
          0 })] (Tryz.f24.ntmps - ([Value.pointer (some { block := b, off := 0 }),
  Value.pointer (some { block := d, off := 0 })] : List Value).length)) w = VC_acequal b d w R := by kernel_rfl
  have hb : Tryz.f24.body = some (Tryz.f24.body.getD .skip) := by kernel_rfl
  exact calls_of_exec2' (P := Tryz.prog) (fn := Tryz.f24) (c := Tryz.f24.body.getD .skip) (args := [Value.pointer
    (some { block := b, off := 0 }),
  Value.pointer (some { block := d, off := 0 })]) (w := w) (R := R) pur1_ok Tryz.func24 hb e h

end Go.Proofs.YtgmmoghagpmpfaaGreatDoor

/- Chapter 27: the contracts of with, of Remove's closure, of has; rows of intervals compared. No condition but the range. -/
namespace Go.Proofs.YtgmmoghagpmpfaaGreatDoor
open Go.RowKit Go.Maps Go.Sort

theorem ivcon_any (l : List Iv) (p : Option Addr) (c : Nat) (f : FuncId) (fa fb : Array Value) (g : Iv → Bool) (w : World) (hR : RowA ivC 2 w p l) (hs : l.length ≤ 4611686018427387904) (hok : okFn Tryz.prog f = true)
    (hF : ∀ x : Iv, ∀ w1, K0 w w1 → Calls Tryz.prog f (appA fa [.agg #[.int .i64 x.a, .int .i64 x.b]] fb) w1 fun e w2 => e = .returned (.bool (g x)) ∧ K0 w1 w2) :
    Calls Tryz.prog 85 #[.slice p l.length c, .func (.func f) fa fb] w fun e w' => e = .returned (.bool (l.any g)) ∧ K0 w w' := by
  have hidx : Calls Tryz.prog 109 #[.slice p l.length c, .func (.func f) fa fb] w fun e w' => (∃ x : Int, e = .returned (.int .i64 x) ∧ decide (x ≥ 0) = l.any g) ∧ K0 w w' := by
    refine vc_ividxF p l.length c f fa fb w _ ?_
    refine ⟨fun vs w' => ∃ i : Nat, vs = [.int .i64 (i : Int)] ∧ i ≤ l.length ∧ (∀ j z, j < i → l[j]? = some z → g z = false) ∧ K0 w w',
      fun vs _ => (match vs with | .int _ x :: _ => l.length - x.toNat | _ => 0), ⟨0, rfl, by omega, (fun j z h => by omega), .refl _ _⟩, ?_⟩
    rintro x w1 ⟨i, hv, hi, hall, k1⟩
    simp only [List.cons.injEq, Value.int.injEq, true_and, and_true] at hv
    subst hv
    refine bsp_intro (fun hlt => ?_) (fun hge => ?_)
    · have hlt : i < l.length := by simp at hlt; omega
      obtain ⟨z, b, o, hz, hp, hc⟩ := (hR.k0 k1).get hlt
      rw [Int.toNat_natCast]
      refine nn_is hp ⟨⟨by omega, by omega⟩, z.a, z.b, hc, f, fa, fb, rfl, hok, ⟨(hF z w1 k1).mono fun e w2 ⟨he, k2⟩ => ⟨_, he, .of_k0 k2, bsp_intro (fun hg => ?_) (fun hg => ?_)⟩⟩⟩
      · refine ⟨⟨i, rfl, ?_⟩, k1.trans k2⟩
        have : l.any g = true := List.any_eq_true.2 ⟨z, List.mem_of_getElem? hz, hg⟩
        rw [this]; simp
      · refine ⟨⟨i + 1, by rw [inc64 (by omega)], hlt, fun j y hj hy => ?_, k1.trans k2⟩, by rw [inc64 (by omega)]; simp only [Int.toNat_natCast]; omega⟩
        by_cases e : j = i
        · rw [e, hz] at hy; cases hy; exact hg
        · exact hall j y (by omega) hy
    · have hi : i = l.length := by simp at hge; omega
      subst hi
      refine ⟨⟨-1, rfl, ?_⟩, k1⟩
      have : l.any g = false := List.any_eq_false.2 fun z hz => by
        obtain ⟨j, hj, e⟩ := List.getElem_of_mem hz
        simpa using hall j z hj (by rw [List.getElem?_eq_getElem hj, e])
      rw [this]; rfl
  refine vc_ivconF p l.length c f fa fb w _ ⟨hidx.mono fun e w1 ⟨⟨x, he, hx⟩, k1⟩ => ⟨_, he, .of_k0 k1, by rw [hx], k1⟩⟩
theorem ahasC_any (x : Iv) (v : Int) (b : Nat) (w : World) (hb : w.cell? ⟨b, 0, none⟩ = some (.int .i64 v)) :
    Calls Tryz.prog 86 #[.agg #[.int .i64 x.a, .int .i64 x.b], .pointer (some ⟨b, 0, none⟩)] w fun e w' => e = .returned (.bool (decide (x.a ≤ v ∧ v ≤ x.b))) ∧ K0 w w' := by
  refine vc_achasC x.a x.b b w _ (fun n => ⟨v, fun W hW => (hW.kk rfl : K0 w W).cell' hb (fun h => h), v, gimp_intro fun _ W hW => (hW.kk rfl : K0 w W).cell' hb (fun h => h), x.b, gimp_intro fun _ W hW => cell_at (hW.cells 0 rfl) rfl, fun W hW => ⟨?_, hW.kk rfl⟩⟩)
  rw [Bool.decide_and]
theorem ahasg_any (h : Int) (cl : Bool) (l : List Iv) (p : Option Addr) (c : Nat) (v : Int) (w : World) (hR : RowA ivC 2 w p l) (hs : l.length ≤ 4611686018427387904) :
    Calls Tryz.prog 63 #[.agg #[.int .i64 h, .bool cl, .slice p l.length c], .int .i64 v] w fun e w' => e = .returned (.bool (hasI l v)) ∧ K0 w w' := by
  refine vc_achasg h cl p l.length c v w _ (fun n1 n2 W hW => ?_)
  have kW : K0 w W := hW.kk rfl
  have c2 := hW.cells 0 rfl
  exact ⟨(ivcon_any l p c 86 #[] #[.pointer (some ⟨n2, 0, none⟩)] (fun x => decide (x.a ≤ v ∧ v ≤ x.b)) W (hR.k0 kW) hs (by kernel_rfl) (fun x w1 k1 => ahasC_any x v n2 w1 (cell_at (k1.blk c2 (fun h => h)) rfl))).mono fun e w1 ⟨he, k1⟩ => ⟨_, he, .of_k0 k1, rfl, kW.trans k1⟩⟩
/-- with: the last interval grows in place, or an interval is appended. -/
theorem awith_any (l : List Iv) (p : Option Addr) (c : Nat) (v : Int) (w : World) {B : Nat} (ho : w.ownsRow B 105 2 (.slice p l.length c) l.length (l.flatMap ivC)) (hB : B ≤ w.heap.size) (hl : l.length ≤ 4294967296) (hv : 0 ≤ v ∧ v ≤ 4294967296) :
    Calls Tryz.prog 61 #[.slice p l.length c, .int .i64 v] w fun e w' => ∃ p' c', e = .returned (.slice p' (withI l v).length c') ∧ w'.ownsRow B 105 2 (.slice p' (withI l v).length c') (withI l v).length ((withI l v).flatMap ivC) ∧
      Kp (fun k => (Value.slice p l.length c).ownBlock = some k) w w' ∧ ∀ k, (Value.slice p' (withI l v).length c').ownBlock = some k → (Value.slice p l.length c).ownBlock = some k ∨ w.heap.size ≤ k := by
  have app : ∀ {x : Int}, (withI l v = l ++ [⟨v, v⟩]) → ∀ (n_1 : Nat) (W : World), Loc w.heap.size [Blk.mk n_1 105 [.int .i64 v, .int .i64 v] 2] w W → ∃ (base : Nat) (xs : List Value), W.ownsRow base 105 2 (.slice p l.length c) l.length xs ∧ l.length + 1 ≤ 9223372036854775807 ∧ (l.length + 1) * 16 ≤ 140737488355328 ∧ base ≤ W.heap.size ∧
      ∀ (p' : Option Addr) (c' : Nat) (w' : World), w'.ownsRow base 105 2 (.slice p' (l.length + 1) c') (l.length + 1) (xs ++ [.int .i64 v, .int .i64 v]) → W.grownBy w' (Value.slice p l.length c).ownBlock → AppL W p l.length c 1 p' c' → KeptL [] W w' ∧
      (∃ p'' c'', Ending.returned (Value.slice p' (l.length + 1) c') = .returned (.slice p'' (withI l v).length c'') ∧ w'.ownsRow B 105 2 (.slice p'' (withI l v).length c'') (withI l v).length ((withI l v).flatMap ivC) ∧
      Kp (fun k => (Value.slice p l.length c).ownBlock = some k) w w' ∧ ∀ k, (Value.slice p'' (withI l v).length c'').ownBlock = some k → (Value.slice p l.length c).ownBlock = some k ∨ w.heap.size ≤ k) := by
    intro x he n1 W hW
    have kW : K0 w W := hW.kk rfl
    have hoW := owns_kp ho kW (fun _ _ h => h)
    have el : (withI l v).length = l.length + 1 := by rw [he]; simp
    refine ⟨B, _, hoW, by omega, by omega, Nat.le_trans hB kW.size, fun p' c' w' ho2 hg ha => ⟨⟨hg.size, fun _ hm => by cases hm⟩, p', c', by rw [el], ?_, ?_, fun k hk => ?_⟩⟩
    · rw [el, he, List.flatMap_append]; exact ho2
    · exact (kW.mono fun _ _ h => h.elim).trans (kp_grown hg)
    · rw [el] at hk
      rcases ha.own with e | e
      · rw [e] at hk; exact .inl hk
      · rw [e] at hk
        cases hk
        exact .inr kW.size
  refine vc_acwith p l.length c v w _ ?_
  rcases List.eq_nil_or_concat l with e | ⟨t, y, e⟩
  · subst e
    have e1 : decide (IntKind.i64.wrap ((([] : List Iv).length : Int) - 1) ≥ 0) = false := by decide
    unfold VC_acwith
    rw [e1]
    exact nn_off (fun b o => ⟨gimp_intro (fun h => by cases h), 0, gimp_intro (fun h => by cases h), bsp_intro (fun h => by simp at h) (fun _ => app (x := 0) rfl)⟩)
  · have e : l = t ++ [y] := by rw [e]; simp
    have el : l.length = t.length + 1 := by rw [e]; simp
    have e1 : IntKind.i64.wrap ((l.length : Int) - 1) = (t.length : Int) := by rw [wr64 (by omega) (by omega)]; omega
    have hy : l[t.length]? = some y := by rw [e]; simp
    have hgl : l.getLast? = some y := by rw [e]; simp
    have ew : withI l v = if y.b = v - 1 then l.dropLast ++ [⟨y.a, v⟩] else l ++ [⟨v, v⟩] := by unfold withI; rw [hgl]
    obtain ⟨g, rfl, hat⟩ := own_at ivC ho (fun _ _ => rfl) (by decide) hy
    have hc : w.cell? ⟨g, 0 + t.length * 2 + 1, none⟩ = some (.int .i64 y.b) := hat.cell (j := 1) rfl
    unfold VC_acwith
    rw [e1, wr64 (x := v - 1) (by omega) (by omega), Int.toNat_natCast]
    refine nn_is rfl ⟨gimp_intro fun _ => ⟨by omega, by omega⟩, y.b, gimp_intro fun _ => hc, bsp_intro (fun hb => ?_) (fun hb => ?_)⟩
    · have hb : y.b = v - 1 := by simp at hb; exact hb
      rw [if_pos hb] at ew
      obtain ⟨g', hg', hw1, hw2⟩ := own_wrc ho (k := t.length) (j := 1) (by omega) (by omega)
      cases hg'
      refine nn_is rfl ⟨⟨by omega, by omega⟩, ⟨hw1, hw2⟩, fun w1 hp => ⟨⟨hp.kp.size, fun _ hm => by cases hm⟩, some ⟨g, 0, none⟩, c, ?_, ?_, ?_, fun k hk => ?_⟩⟩
      · have : (withI l v).length = l.length := by rw [ew, e]; simp
        rw [this]
      · have h3 := own_part (f := ivC) (y' := ⟨y.a, v⟩) (j := 1) (vs := [.int .i64 v]) ho rfl (fun _ => rfl) (by decide) hy (by show 1 + 1 ≤ 2; omega) rfl hp
        have h4 : l.set t.length ⟨y.a, v⟩ = withI l v := by
          rw [ew, e, List.set_append_right _ _ (Nat.le_refl _)]
          simp
        rw [h4] at h3
        have h5 : (withI l v).length = l.length := by rw [ew, e]; simp
        rw [h5]; exact h3
      · exact hp.kp.mono fun k _ e => by rw [e]; rfl
      · have h5 : (withI l v).length = l.length := by rw [ew, e]; simp
        rw [h5] at hk
        exact .inl hk
    · have hb : ¬ y.b = v - 1 := by
        intro h
        rw [h] at hb
        simp at hb
      rw [if_neg hb] at ew
      exact app (x := 0) ew
/-- Remove's closure: an interval that is not empty is appended to the row in block b. -/
theorem akeep_any (u v : Int) (b : Nat) (l : List Iv) (p : Option Addr) (c B : Nat) (w : World) (hb : w.heap[b]? = some (.cells #[.slice p l.length c] 92 (0, 0))) (ho : w.ownsRow B 105 2 (.slice p l.length c) l.length (l.flatMap ivC)) (hB : b < B) (hBw : B ≤ w.heap.size) (hl : l.length ≤ 4294967296) :
    Calls Tryz.prog 65 #[.int .i64 u, .int .i64 v, .pointer (some ⟨b, 0, none⟩)] w fun e w' => e = .returned (.tuple #[]) ∧
      (∃ p' c', w'.heap[b]? = some (.cells #[.slice p' (l ++ keepI u v).length c'] 92 (0, 0)) ∧ w'.ownsRow B 105 2 (.slice p' (l ++ keepI u v).length c') (l ++ keepI u v).length ((l ++ keepI u v).flatMap ivC) ∧
        ∀ k, (Value.slice p' (l ++ keepI u v).length c').ownBlock = some k → (Value.slice p l.length c).ownBlock = some k ∨ w.heap.size ≤ k) ∧ Kp (fun k => k = b ∨ (Value.slice p l.length c).ownBlock = some k) w w' := by
  unfold keepI
  refine vc_ackeepC u v b w _ (bsp_intro (fun h => ?_) (fun h => ?_))
  · have h : u ≤ v := by simpa using h
    rw [if_pos h]
    refine ⟨p, l.length, c, cell_at hb rfl, fun n1 W hW => ?_⟩
    have kW : K0 w W := hW.kk rfl
    have hoW := owns_kp ho kW (fun _ _ h => h)
    refine ⟨B, _, hoW, by omega, by omega, Nat.le_trans hBw kW.size, fun p' c' w2 ho2 hg ha => ?_⟩
    have k2 : Kp (fun k => (Value.slice p l.length c).ownBlock = some k) w w2 := (Kp.mono kW (fun _ _ h => h.elim)).trans (kp_grown hg)
    have hb2 := k2.blk hb (fun e => by have := own_ge ho e; omega)
    refine ⟨⟨hg.size, fun _ hm => by cases hm⟩, cell_wr hb2 (by show 0 < 1; omega), fun w3 hp => ?_⟩
    have hk3 := hp.kp
    have hnb : ∀ k, (Value.slice p' (l.length + 1) c').ownBlock = some k → ¬ k = b := fun k e e2 => by have := own_ge ho2 e; omega
    have ho3 := owns_kp ho2 hk3 hnb
    have el : (l ++ [(⟨u, v⟩ : Iv)]).length = l.length + 1 := by simp
    refine ⟨⟨hk3.size, fun _ hm => by cases hm⟩, rfl, ⟨p', c', ?_, ?_, fun k hk => ?_⟩, ?_⟩
    · rw [hp.full hb2 rfl, el]
    · rw [el, List.flatMap_append]; exact ho3
    · rw [el] at hk
      rcases ha.own with e | e
      · rw [e] at hk; exact .inl hk
      · rw [e] at hk
        cases hk
        exact .inr kW.size
    · exact (k2.mono fun k _ h => .inr h).trans (hk3.mono fun k _ h => .inl h)
  · have h : ¬ u ≤ v := by simpa using h
    rw [if_neg h, List.append_nil]
    exact ⟨rfl, ⟨p, c, hb, ho, fun k hk => .inl hk⟩, .refl _ _⟩
theorem ivequal_any (l m : List Iv) (p q : Option Addr) (c d : Nat) (w : World) (hR : RowA ivC 2 w p l) (hS : RowA ivC 2 w q m) (hl : l.length ≤ 4611686018427387904) (hm : m.length ≤ 4611686018427387904) :
    Calls Tryz.prog 59 #[.slice p l.length c, .slice q m.length d] w fun e w' => (∃ r : Bool, e = .returned (.bool r) ∧ (r = true ↔ l = m)) ∧ K0 w w' := by
  refine vc_ivequal p l.length c q m.length d w _ (bsp_intro (fun h => ?_) (fun h => ?_))
  · have h : l.length ≠ m.length := by simp at h; omega
    exact ⟨⟨false, rfl, ⟨(fun e => by cases e), fun e => absurd (by rw [e]) h⟩⟩, .refl _ _⟩
  have hlm : l.length = m.length := by simp at h; omega
  refine ⟨fun vs w' => ∃ i : Nat, vs = [.int .i64 (i : Int)] ∧ i ≤ l.length ∧ (∀ j, j < i → l[j]? = m[j]?) ∧ K0 w w',
    fun vs _ => (match vs with | .int _ x :: _ => l.length - x.toNat | _ => 0), ⟨0, rfl, by omega, (fun j h => by omega), .refl _ _⟩, ?_⟩
  rintro x w1 ⟨i, hv, hi, hall, k1⟩
  simp only [List.cons.injEq, Value.int.injEq, true_and, and_true] at hv
  subst hv
  refine bsp_intro (fun hlt => ?_) (fun hge => ?_)
  · have hlt : i < l.length := by simp at hlt; omega
    obtain ⟨y, b, o, hy, hp, hc⟩ := (hR.k0 k1).get hlt
    obtain ⟨z, b2, o2, hz, hq, hc2⟩ := (hS.k0 k1).get (show i < m.length by omega)
    rw [Int.toNat_natCast]
    refine nn_is hp ⟨⟨by omega, by omega⟩, y.a, y.b, fun W hW => hc.k0 (hW.kk rfl), nn_is hq ⟨⟨by omega, by omega⟩, z.a, z.b, fun W hW => hc2.k0 (hW.kk rfl), _, ivEq y z, bsp_intro (fun hb => ?_) (fun hb => ?_)⟩⟩
    · intro W hW
      refine ⟨⟨false, rfl, ⟨(fun e => by cases e), fun e => ?_⟩⟩, k1.trans (hW.kk rfl)⟩
      subst e
      rw [hy] at hz
      cases hz
      simp at hb
    · intro W hW
      have e : y = z := by
        simp at hb
        obtain ⟨a, b⟩ := y
        obtain ⟨a', b'⟩ := z
        simp only at hb
        rw [hb.1, hb.2]
      rw [inc64 (by omega)]
      refine ⟨⟨i + 1, rfl, hlt, fun j hj => ?_, k1.trans (hW.kk rfl)⟩, by simp only [Int.toNat_natCast]; omega⟩
      by_cases e2 : j = i
      · rw [e2, hy, hz, e]
      · exact hall j (by omega)
  · have hi2 : i = l.length := by simp at hge; omega
    subst hi2
    refine ⟨⟨true, rfl, ⟨fun _ => ?_, fun _ => rfl⟩⟩, k1⟩
    apply List.ext_getElem?
    intro j
    rcases Nat.lt_or_ge j l.length with h1 | h1
    · exact hall j h1
    · rw [List.getElem?_eq_none h1, List.getElem?_eq_none (by omega)]

end Go.Proofs.YtgmmoghagpmpfaaGreatDoor

/- Chapter 27: the contracts of New, find, Open, Close, Get, Has. Names are not too long; the library's variable MaxLen holds a number. -/
namespace Go.Proofs.YtgmmoghagpmpfaaGreatDoor
open Go.RowKit Go.Maps Go.Sort

theorem mapLen {α : Type} {k t e : TypeId} {enc : α → Value} {w : World} {b : Nat} {l : List (α × Value)} (h : MapB Tryz.prog k enc w b l) (ht : Tryz.prog.underlying t = some (.map k e)) : LenP Tryz.prog t (.map (some b)) (l.length : Nat) w := by
  obtain ⟨es, c, hb, he⟩ := h.blk
  have hl : es.size = l.length := by
    have := congrArg List.length he
    simpa using this
  constructor
  intro ty
  simp [Builtin.len_, run_underlying ht, MapKept.run_getObj_map hb, Result.andThen, hl, goInt]
theorem gk0 {w w' : World} (hG : GW w) (hk : K0 w w') : GW w' := hG.kp hk (fun h => h)
theorem acnew_any (w : World) (hw : 0 < w.heap.size) : Calls Tryz.prog 19 #[] w fun e w' => (∃ b mb, e = .returned (.pointer (some ⟨b, 0, none⟩)) ∧ Tq w' w.heap.size b mb [] []) ∧ K0 w w' := by
  refine vc_acnew w _ ?_
  unfold VC_acnew
  intro mb w1 h1
  refine ⟨.of_k0 (h1.kp _), fun b W hW => ?_⟩
  have k1 : K0 w1 W := hW.kk rfl
  have gb : w1.heap.size ≤ b := hW.fresh 0 rfl rfl
  have g1 := h1.ge
  have s1 := (h1.kp (fun _ => False)).size
  refine ⟨⟨b, mb, rfl, ⟨hW.cells 0 rfl, (NewB.map h1).kp k1 (fun h => h), (fun g x h => by cases h), (fun g x h y k h1 => by cases h1), (fun g x k h => by cases h), by omega, g1, hw⟩, .refl _, WF.nil, Nat.zero_le _⟩, (h1.kp _).trans k1⟩
section
variable {w : World} {B b mb : Nat} {m : TM} {A : TA}
theorem acfind_any (h : Tq w B b mb m A) (s : ByteArray) (hs : s.size ≤ 1073741824) :
    Calls Tryz.prog 45 #[.pointer (some ⟨b, 0, none⟩), .string s] w fun e w' => e = .returned (.tuple #[gxV ((aget m s).getD gxz), .int .i64 (if (aget m s).isSome = true then 0 else 8)]) ∧ K0 w w' := by
  refine vc_acfind b s w _ (fun n => ⟨some mb, fun W hW => (h.k0 (hW.kk rfl)).z.cM, _, _, _, _, _, (aget m s).isSome, fun W hW => (h.k0 (hW.kk rfl)).z.look1 hs, fun n2 => bsp_intro (fun hb W hW => ?_) (fun hb W hW => ?_)⟩)
  · have hb : (aget m s).isSome = false := by simpa using hb
    have hn : aget m s = none := by simpa using hb
    refine ⟨?_, hW.kk rfl⟩
    rw [hn]; rfl
  · have hb : (aget m s).isSome = true := by simpa using hb
    refine ⟨?_, hW.kk rfl⟩
    rw [if_pos hb]
set_option maxHeartbeats 1000000 in
theorem acopen_any (h : Tq w B b mb m A) (s : ByteArray) (hs : s.size ≤ 1073741824) (hG : GW w) :
    Calls Tryz.prog 31 #[.pointer (some ⟨b, 0, none⟩), .string s] w fun e w' => e = .returned (.int .i64 (opA A s).2) ∧ ∃ m', Ts w w' B b mb m (opA A s).1 m' := by
  refine vc_acopen b s w _ ⟨(gcheck_any s w hG).mono fun e w1 ⟨he, k1⟩ => ⟨_, he, .of_k0 k1, bsp_intro (fun h0 => ?_) (fun h0 => ?_)⟩⟩
  · have h0 : gnE s ≠ 0 := by simpa using h0
    have e : opA A s = (A, gnE s) := by unfold opA; rw [if_pos h0]
    rw [e]
    exact ⟨rfl, m, h.same k1⟩
  have h0 : gnE s = 0 := by simpa using h0
  have h1 := h.k0 k1
  have kk : ∀ {n : Nat} {t : TypeId} {cs : List Value} {mm : Nat} {W : World}, Loc w.heap.size [Blk.mk n t cs mm] w1 W → K0 w W := fun hW => hW.k0 k1
  refine ⟨some mb, h1.z.cM, _, _, _, _, _, _, h1.z.look1 hs, fun n1 => ⟨((aget m s).getD gxz).v.c, gimp_intro fun _ W hW => cell_at (hW.cells 0 rfl) rfl, bsp_intro (fun hb W hW => ?_) (fun hb => ⟨some mb, gimp_intro fun _ W hW => (h.k0 (kk hW)).z.cM, (A.length : Int), gimp_intro fun _ W hW => ?_, bsp_intro (fun hc W hW => ?_) (fun hc => ⟨some mb, fun W hW => (h.k0 (kk hW)).z.cM, bsp_intro (fun hd => by cases hd) (fun _ => ⟨some mb, fun W hW => (h.k0 (kk hW)).z.cM, fun W hW => ?_⟩)⟩)⟩)⟩⟩
  · simp only [Bool.and_eq_true, Bool.not_eq_true'] at hb
    obtain ⟨x, hx⟩ := Option.isSome_iff_exists.1 hb.1
    rw [hx] at hb
    have hg := h.getS hx
    have e : opA A s = (A, 7) := by unfold opA; rw [if_neg (by simpa using h0), hg]; simp only; rw [if_pos (show x.v.c = false from hb.2)]
    rw [e]
    exact ⟨rfl, m, h.same (kk hW)⟩
  · have := mapLen (h.k0 (kk hW)).z.mm (t := 97) Tryz.underlying97
    rw [show (amap gxV m).length = A.length by rw [← h.length]; simp [amap]] at this
    exact this
  · simp only [Bool.and_eq_true, Bool.not_eq_true', decide_eq_true_eq] at hc
    have hn : aget m s = none := by simpa using hc.1
    have e : opA A s = (A, 9) := by unfold opA; rw [if_neg (by simpa using h0), h.getN hn]; simp only; rw [if_pos (by omega)]
    rw [e]
    exact ⟨rfl, m, h.same (kk hW)⟩
  · have kW := kk hW
    have hnb := hW.cells 0 rfl
    cases hx : aget m s with
    | none =>
      rw [hx] at hc hnb
      have hl : A.length < 4096 := by simp at hc; omega
      have e : opA A s = (insA gnC A s ⟨0, false, []⟩, 0) := by unfold opA; rw [if_neg (by simpa using h0), h.getN hx]; simp only; rw [if_neg (by omega)]
      rw [e]
      obtain ⟨w2, hu, hT, k2⟩ := Ts.ins h (x := ⟨⟨0, false, []⟩, none, 0⟩) hx kW hs (Gx.own_z _ _ _ _) (fun k e => by cases e) (h.wf.ins (h.getN hx) h0) hl
      exact ⟨w2, hu, h.z.keptL k2 (fun n hn => by simp at hn; rw [hn]; exact Nat.le_trans k1.size (hW.fresh 0 rfl rfl)), rfl, _, hT⟩
    | some x =>
      rw [hx] at hb hnb
      have hcl : x.v.c = true := by simpa [gxz] using hb
      have hg := h.getS hx
      obtain ⟨_, a1, a2, a3⟩ := h.wf.get hg
      have e : opA A s = (aset A s ⟨x.v.h, false, x.v.l⟩, 0) := by unfold opA; rw [if_neg (by simpa using h0), hg]; simp only; rw [if_neg (by rw [hcl]; simp)]
      rw [e]
      obtain ⟨w2, hu, hT, k2⟩ := Ts.put h (x := ⟨⟨x.v.h, false, x.v.l⟩, x.p, x.c⟩) hx (kW.mono fun _ _ e => e.elim) hs ((h.z.own s x hx (fun h => h)).kp kW (fun _ _ h => h)) (fun k e => .inl e) (h.wf.set hg ⟨a1, a2⟩ a3)
      exact ⟨w2, hu, h.z.keptL k2 (fun n hn => by simp at hn; rw [hn]; exact Nat.le_trans k1.size (hW.fresh 0 rfl rfl)), rfl, _, hT⟩
theorem acclose_any (h : Tq w B b mb m A) (s : ByteArray) (hs : s.size ≤ 1073741824) :
    Calls Tryz.prog 26 #[.pointer (some ⟨b, 0, none⟩), .string s] w fun e w' => e = .returned (.int .i64 (clA A s).2) ∧ ∃ m', Ts w w' B b mb m (clA A s).1 m' := by
  refine vc_acclose b s w _ ⟨(acfind_any h s hs).mono fun e w1 ⟨he, k1⟩ => ⟨_, _, _, _, _, _, he, .of_k0 k1, fun n1 => ?_⟩⟩
  have kk : ∀ {n : Nat} {t : TypeId} {cs : List Value} {mm : Nat} {W : World}, Loc w.heap.size [Blk.mk n t cs mm] w1 W → K0 w W := fun hW => hW.k0 k1
  unfold clA
  cases hx : aget m s with
  | none =>
    rw [h.getN hx]
    exact bsp_intro (fun _ W hW => ⟨rfl, m, h.same (kk hW)⟩) (fun hb => by simp at hb)
  | some x =>
    have hg := h.getS hx
    obtain ⟨_, a1, a2, a3⟩ := h.wf.get hg
    rw [hg]
    refine bsp_intro (fun hb => by simp at hb) (fun _ => bsp_intro (fun hc W hW => ?_) (fun hc => ⟨some mb, fun W hW => (h.k0 (kk hW)).z.cM, fun W hW => ?_⟩))
    · have hc : x.v.c = true := hc
      simp only
      rw [if_pos hc]
      exact ⟨rfl, m, h.same (kk hW)⟩
    · have hc : x.v.c = false := hc
      simp only
      rw [if_neg (by rw [hc]; simp)]
      have kW := kk hW
      obtain ⟨w2, hu, hT, k2⟩ := Ts.put h (x := ⟨⟨x.v.h, true, x.v.l⟩, x.p, x.c⟩) hx (kW.mono fun _ _ e => e.elim) hs ((h.z.own s x hx (fun h => h)).kp kW (fun _ _ h => h)) (fun k e => .inl e) (h.wf.set hg ⟨a1, a2⟩ a3)
      exact ⟨w2, hu, h.z.keptL k2 (fun n hn => by simp at hn; rw [hn]; exact Nat.le_trans k1.size (hW.fresh 0 rfl rfl)), rfl, _, hT⟩
theorem Tq.rowOf (h : Tq w B b mb m A) {s : ByteArray} {x : Gx} (hx : aget m s = some x) : RowA ivC 2 w x.p x.v.l := (h.z.own s x hx (fun h => h)).row
theorem Tq.lenOf (h : Tq w B b mb m A) {s : ByteArray} {x : Gx} (hx : aget m s = some x) : x.v.l.length ≤ 2147483646 := h.wf.ivlen (aget_mem (h.getS hx))
end

end Go.Proofs.YtgmmoghagpmpfaaGreatDoor

/- Chapter 27: the contracts of Get, Numbers, Neighbour. Names are not too long. -/
namespace Go.Proofs.YtgmmoghagpmpfaaGreatDoor
open Go.RowKit Go.Maps Go.Sort

section
variable {w : World} {B b mb : Nat} {m : TM} {A : TA}
theorem Tq.ivOf (h : Tq w B b mb m A) {s : ByteArray} {x : Gx} (hx : aget m s = some x) : IvS x.v.h 1 x.v.l ∧ 0 ≤ x.v.h ∧ x.v.h ≤ 2147483646 ∧ (exI x.v.l).length ≤ 2147483646 := by
  obtain ⟨_, a1, a2, a3⟩ := h.wf.get (h.getS hx)
  exact ⟨a3, a1, a2, h.wf.exlen (aget_mem (h.getS hx))⟩
theorem acfindS (h : Tq w B b mb m A) (s : ByteArray) (hs : s.size ≤ 1073741824) {x : Gx} (hx : aget m s = some x) :
    Calls Tryz.prog 45 #[.pointer (some ⟨b, 0, none⟩), .string s] w fun e w' => e = .returned (.tuple #[gxV x, .int .i64 0]) ∧ K0 w w' := (acfind_any h s hs).mono fun e w' ⟨he, hk⟩ => ⟨by rw [he, hx]; rfl, hk⟩
theorem acfindN (h : Tq w B b mb m A) (s : ByteArray) (hs : s.size ≤ 1073741824) (hx : aget m s = none) :
    Calls Tryz.prog 45 #[.pointer (some ⟨b, 0, none⟩), .string s] w fun e w' => e = .returned (.tuple #[gxV gxz, .int .i64 8]) ∧ K0 w w' := (acfind_any h s hs).mono fun e w' ⟨he, hk⟩ => ⟨by rw [he, hx]; rfl, hk⟩
set_option maxHeartbeats 1000000 in
theorem acget_any (h : Tq w B b mb m A) (s : ByteArray) (hs : s.size ≤ 1073741824) :
    Calls Tryz.prog 16 #[.pointer (some ⟨b, 0, none⟩), .string s] w fun e w' => e = .returned (match aget A s with
      | some v => .tuple #[.agg #[.string s, .int .i64 (lowI v), .int .i64 v.h, .int .i64 ((exI v.l).length : Nat), .bool v.c], .int .i64 0]
      | none => .tuple #[.agg #[.string ⟨#[]⟩, .int .i64 0, .int .i64 0, .int .i64 0, .bool false], .int .i64 8]) ∧ K0 w w' := by
  refine vc_acget b s w _ (fun n W hW => ?_)
  have kW : K0 w W := hW.kk rfl
  refine ⟨(acfind_any (h.k0 kW) s hs).mono fun e w1 ⟨he, k1⟩ => ⟨_, _, _, _, _, _, he, .of_k0 k1, fun n2 => ?_⟩⟩
  have k01 : K0 w w1 := kW.trans k1
  cases hx : aget m s with
  | none =>
    rw [h.getN hx]
    exact bsp_intro (fun _ W2 hW2 => ⟨rfl, hW2.k0 k01⟩) (fun hb => by simp at hb)
  | some x =>
    rw [h.getS hx]
    obtain ⟨hiv, h0, hm, hel⟩ := h.ivOf hx
    have hll := h.lenOf hx
    refine bsp_intro (fun hb => by simp at hb) (fun _ n3 => bsp_intro (fun hl => ?_) (fun hl => fun W3 hW3 => ?_))
    · have hl : 0 < x.v.l.length := by simp [gxz] at hl; exact hl
      obtain ⟨y, gb, go, hy, hp, hat⟩ := (h.rowOf hx).get hl
      refine nn_is hp ⟨⟨by omega, by show (0 : Int) < (x.v.l.length : Nat); omega⟩, y.a, fun W3 hW3 => ?_, fun W3 hW3 => ?_⟩
      · have := hat.cell (j := 0) rfl
        rw [Nat.zero_mul, Nat.add_zero] at this
        exact (hW3.k0 k01).cell' this (fun h => h)
      · have k3 : K0 w W3 := hW3.k0 k01
        have c3 := hW3.cells 0 rfl
        have g3 : w.heap.size ≤ n3 := Nat.le_trans k01.size (hW3.fresh 0 rfl rfl)
        have elow : lowI x.v = y.a := by
          unfold lowI
          cases hvl : x.v.l with
          | nil => rw [hvl] at hl; cases hl
          | cons z t => rw [hvl] at hy; cases hy; rfl
        refine ⟨fun vs w' => ∃ i : Nat, vs = [.int .i64 (i : Int)] ∧ i ≤ x.v.l.length ∧ w'.heap[n3]? = some (.cells #[.string s, .int .i64 y.a, .int .i64 x.v.h, .int .i64 (offI x.v.l i : Nat), .bool x.v.c] 31 (0, 0)) ∧ K0 w w',
          fun vs _ => (match vs with | .int _ a :: _ => x.v.l.length - a.toNat | _ => 0), ⟨0, rfl, by omega, c3, k3⟩, ?_⟩
        rintro q w4 ⟨i, hv, hi, c4, k4⟩ hL4
        simp only [List.cons.injEq, Value.int.injEq, true_and, and_true] at hv
        subst hv
        refine bsp_intro (fun hlt => ?_) (fun hge => ?_)
        · have hlt : i < x.v.l.length := by have hlt : (i : Int) < (x.v.l.length : Nat) := by simpa using hlt
                                            omega
          obtain ⟨z, zb, zo, hz, hzp, hzat⟩ := ((h.rowOf hx).k0 k4).get hlt
          have hzz := hiv.mem z (List.mem_of_getElem? hz)
          have hoff := offI_succ hz
          have hmono := offI_mono (l := x.v.l) (i := i + 1) (j := x.v.l.length) (by omega)
          rw [offI_all] at hmono
          rw [Int.toNat_natCast]
          refine nn_is hzp ⟨⟨by omega, by show (i : Int) < (x.v.l.length : Nat); omega⟩, z.a, z.b, hzat, fun n4 => ⟨(offI x.v.l i : Nat), fun W5 hW5 => ?_, fun W5 hW5 => ⟨?_, fun w6 hp6 => ⟨?_, ⟨i + 1, by rw [inc64 (by omega)], by omega, ?_, ?_⟩, ?_⟩⟩⟩⟩
          · exact cell_at ((hW5.kk rfl : K0 w4 W5).blk c4 (fun h => h)) rfl
          · exact cell_wr ((hW5.kk rfl : K0 w4 W5).blk c4 (fun h => h)) (by show 0 + 3 < 5; omega)
          · refine .of_kp hp6.kp (fun k hk e => ?_)
            simp only [List.mem_cons, List.not_mem_nil, or_false] at hk
            have a1 := hW3.apart 0 1 rfl rfl (by decide)
            have a2 := hW3.apart 0 2 rfl rfl (by decide)
            have a3 : w4.heap.size ≤ n4 := hW5.fresh 2 rfl rfl
            have a4 := block_lt c4
            rcases hk with rfl | rfl | rfl
            · exact a1 e.symm
            · exact a2 e.symm
            · omega
          · rw [hp6.block ((hW5.kk rfl : K0 w4 W5).blk c4 (fun h => h))]
            rw [wr64 (x := z.b - z.a) (by omega) (by omega), wr64 (x := z.b - z.a + 1) (by omega) (by omega), wr64 (by omega) (by omega)]
            have e1 : ((offI x.v.l i : Nat) : Int) + (z.b - z.a + 1) = ((offI x.v.l (i + 1) : Nat) : Int) := by omega
            rw [e1]; rfl
          · exact put_k0 (k4.trans (hW5.kk rfl)) hp6 g3
          · rw [inc64 (by omega)]; simp only [Int.toNat_natCast]; omega
        · have hi2 : i = x.v.l.length := by
            have hge : ¬ (i : Int) < (x.v.l.length : Nat) := by simpa using hge
            omega
          subst hi2
          rw [offI_all] at c4
          refine ⟨_, _, _, _, _, AtL_block c4 rfl, fun W5 hW5 => ⟨?_, hW5.k0 k4⟩⟩
          show Ending.returned (Value.tuple #[.agg #[.string s, .int .i64 y.a, .int .i64 x.v.h, .int .i64 ((exI x.v.l).length : Nat), .bool x.v.c], .int .i64 0]) = .returned (.tuple #[.agg #[.string s, .int .i64 (lowI x.v), .int .i64 x.v.h, .int .i64 ((exI x.v.l).length : Nat), .bool x.v.c], .int .i64 0])
          rw [elow]
    · have hl : x.v.l = [] := by
        have : ¬ 0 < x.v.l.length := by simpa using hl
        exact List.eq_nil_of_length_eq_zero (by omega)
      have k3 : K0 w W3 := hW3.k0 k01
      have c3 := hW3.cells 0 rfl
      refine ⟨fun vs w' => vs = [.int .i64 0] ∧ w'.heap[n3]? = W3.heap[n3]? ∧ K0 w w', fun _ _ => 0, ⟨rfl, rfl, k3⟩, ?_⟩
      rintro q w4 ⟨hv, c4, k4⟩ hL4
      simp only [List.cons.injEq, Value.int.injEq, true_and, and_true] at hv
      subst hv
      rw [c3] at c4
      refine bsp_intro (fun hlt => ?_) (fun hge => ?_)
      · exfalso
        have hlt : (0 : Int) < (x.v.l.length : Nat) := by simpa using hlt
        rw [hl] at hlt
        exact absurd hlt (by decide)
      · refine ⟨_, _, _, _, _, AtL_block c4 rfl, fun W5 hW5 => ⟨?_, hW5.k0 k4⟩⟩
        have e1 : lowI x.v = x.v.h + 1 := by unfold lowI; rw [hl]
        have e2 : (exI x.v.l).length = 0 := by rw [hl]; rfl
        have e3 : IntKind.i64.wrap (x.v.h + 1) = x.v.h + 1 := wr64 (by omega) (by omega)
        show Ending.returned (Value.tuple #[.agg #[.string s, .int .i64 (IntKind.i64.wrap (x.v.h + 1)), .int .i64 x.v.h, .int .i64 0, .bool x.v.c], .int .i64 0]) = .returned (.tuple #[.agg #[.string s, .int .i64 (lowI x.v), .int .i64 x.v.h, .int .i64 ((exI x.v.l).length : Nat), .bool x.v.c], .int .i64 0])
        rw [e1, e2, e3]; rfl
end

end Go.Proofs.YtgmmoghagpmpfaaGreatDoor
